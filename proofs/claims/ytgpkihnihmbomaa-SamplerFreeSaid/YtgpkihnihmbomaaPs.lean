/- How many policies a policy is of, and how deep: policy.size, the document's Size and Depth, walked. No conditions but bounds. -/
import Derived.Test.YtgpkihnihmbomaaPt
namespace Go.Proofs.Ytgpkihnihmbomaa.Pt
open Go.RowKit Go.Proofs.YtgpkihnihmbomaaW.PrintWords Go.Proofs.YtgpkihnihmbomaaW.PrintLast
open Go.Proofs.Ytgpkihnihmbomaa.Ob Go.Proofs.Ytgpkihnihmbomaa.Two Go.Proofs.Ytgpkihnihmbomaa.Bx
set_option linter.unusedSimpArgs false
set_option linter.unusedVariables false
theorem szok_iff {d : Nat} {p : Pol} {dep : Nat} : szok d p dep = true ↔ dp d p + dep ≤ 9 ∧ sz d p ≤ 64 := by unfold szok; exact decide_eq_true_iff
theorem szok_no {d : Nat} {p : Pol} {dep : Nat} : szok d p dep = false ↔ ¬ (dp d p + dep ≤ 9 ∧ sz d p ≤ 64) := by unfold szok; exact decide_eq_false_iff_not
theorem sz_pos (d : Nat) (p : Pol) : 1 ≤ sz (d + 1) p := by unfold sz; omega
theorem dp_pos (d : Nat) (p : Pol) : 1 ≤ dp (d + 1) p := by unfold dp; omega
theorem kid_sz {d : Nat} (p : Pol) (j : Nat) (h : j < p.kids.length) : ((p.kids.take (j + 1)).map (sz d)).sum = ((p.kids.take j).map (sz d)).sum + sz d p.kids[j] := by
  rw [List.map_take, List.map_take, sum_take_succ _ _ (by rw [List.length_map]; exact h), List.getElem_map]
theorem kid_sum {d : Nat} (p : Pol) (j : Nat) : ((p.kids.take j).map (sz d)).sum ≤ (p.kids.map (sz d)).sum := by rw [List.map_take]; exact sum_take_le _ _
theorem kid_dp {d : Nat} (p : Pol) (j : Nat) (h : j < p.kids.length) : ((p.kids.take (j + 1)).map (dp d)).foldl max 0 = max (((p.kids.take j).map (dp d)).foldl max 0) (dp d p.kids[j]) := by
  rw [List.map_take, List.map_take, max_take_succ _ _ (by rw [List.length_map]; exact h), List.getElem_map]
theorem kid_max {d : Nat} (p : Pol) (j : Nat) : ((p.kids.take j).map (dp d)).foldl max 0 ≤ (p.kids.map (dp d)).foldl max 0 := by rw [List.map_take]; exact max_take_le _ _
set_option maxHeartbeats 8000000 in
set_option maxRecDepth 1000000 in
theorem size_w : ∀ (d : Nat) (p : Pol) (dep : Nat) (dI : Int) (cs : List Value) (w : World) (b : Bool) (r : Int), dI = (dep : Int) → dep ≤ 1000 → (kp 53 d).K w p cs → szok d p dep = b → (if b then (sz d p : Int) else 0) = r →
    Calls Try.prog 57 #[.agg cs.toArray, .int .i64 dI] w fun e w' => e = .returned (.tuple #[.int .i64 r, .bool b]) ∧ Below w.heap.size w w' := by
  intro d
  induction d with
  | zero => intro p dep dI cs w b r _ _ hK; exact (kp_no hK).elim
  | succ d ih =>
    intro p dep dI cs w b r hdI hdep hK hb hr
    obtain ⟨A, c, rfl, hc, hC⟩ := kp_open hK
    clear hK
    replace ih := Aside0.mk ih
    show Calls Try.prog 57 #[.agg #[.string p.op, .string p.key, .int .i64 p.vk, .int .i64 p.vn, .string p.vs, .int .u64 p.n, .slice A p.kids.length c], .int .i64 dI] w _
    have hT := Aside0.mk ((Bx.start w).new [.string p.op, .string p.key, .int .i64 p.vk, .int .i64 p.vn, .string p.vs, .int .u64 p.n, .slice A p.kids.length c] 53)
    subst hdI
    obtain ⟨n, hn⟩ : ∃ n, p.kids.length = n := ⟨_, rfl⟩
    have hnm := Kd.C_max hC
    rw [hn] at hC hT hnm ⊢
    replace hC := Aside0.mk hC
    have hdp : dp (d + 1) p = 1 + (p.kids.map (dp d)).foldl max 0 := rfl
    have hsz : sz (d + 1) p = 1 + (p.kids.map (sz d)).sum := rfl
    by_cases hd8 : dep > 8
    · have hd8I : (dep : Int) > 8 := by omega
      have e1 : szok (d + 1) p dep = false := szok_no.2 (by omega)
      rw [e1] at hb
      subst hb
      have e2 : r = 0 := by rw [← hr]; rfl
      subst e2
      clear hr hC hdp hsz hd8
      go_enter Try.func57, Try.ntmps57
      go_wp2
      go_ret2
      exact ⟨rfl, hT.out.b⟩
    · have hd8I : ¬ (dep : Int) > 8 := by omega
      replace hb := Aside0.mk hb
      replace hr := Aside0.mk hr
      replace hdp := Aside0.mk hdp
      replace hsz := Aside0.mk hsz
      obtain ⟨y6, z6⟩ := hT.out.row (List.mem_cons_self ..) 6 _ rfl
      go_enter Try.func57, Try.ntmps57
      go_wp2
      go_loopg [6, 16] (n + 1) (fun kq v6 v16 wr => ∃ (j a : Nat), v6 = .int .i64 (a : Int) ∧ v16 = .int .i64 (j : Int) ∧ j ≤ n ∧ a ≤ 64 ∧ n - j < kq ∧ Aside0 (a = 1 + ((p.kids.take j).map (sz d)).sum) ∧ Aside0 (((p.kids.take j).map (dp d)).foldl max 0 + (dep + 1) ≤ 9) ∧ Aside0 (Below w.heap.size w wr))
      case atStart => exact ⟨0, 1, rfl, rfl, Nat.zero_le _, by omega, by omega, ⟨by simp⟩, ⟨by simp; omega⟩, ⟨hT.out.b⟩⟩
      case round =>
        clear y6 z6 hT
        obtain ⟨j, a, rfl, rfl, hj, ha, hk, hA, hD, hB⟩ := hrel
        obtain ⟨k1, rfl⟩ : ∃ m, gk = m + 1 := ⟨gk - 1, by omega⟩
        have hj0 : (0 : Int) ≤ (j : Int) := by omega
        by_cases hjn : j < n
        · have hjnI : (j : Int) < (n : Int) := by omega
          have hjl : j < p.kids.length := by omega
          cases d with
          | zero => exact absurd hjl (by rw [kp_none hC.out]; simp)
          | succ d' =>
            obtain ⟨ad, A6, c6, rfl, x0, x1, x2, x3, x4, x5, x6, l6, g6⟩ := kp_at (Kd.C_below hC.out hB.out) j hjl hjn
            have hs1 := kid_sz (d := d' + 1) p j hjl
            have hs2 := kid_sum (d := d' + 1) p (j + 1)
            have hs3 := kid_dp (d := d' + 1) p j hjl
            have hs4 := kid_max (d := d' + 1) p (j + 1)
            generalize hq : p.kids[j] = q at *
            have hKq := Aside0.mk (kp_mk (e := 53) wr q l6 g6)
            clear hq g6 l6
            have hAd := hA.out
            have hDd := hD.out
            by_cases hok : szok (d' + 1) q (dep + 1) = true
            · have h2 := szok_iff.1 hok
              obtain ⟨m, hm⟩ : ∃ m, sz (d' + 1) q = m := ⟨_, rfl⟩
              rw [hm] at h2 hs1
              have hm64 := h2.2
              replace hok := Aside0.mk hok
              by_cases h64 : a + m > 64
              · have h64I : (a : Int) + (m : Int) > 64 := by omega
                have e1 : szok (d' + 1 + 1) p dep = false := szok_no.2 (by have := hsz.out; omega)
                have hb' := hb.out
                rw [e1] at hb'
                subst hb'
                have e2 : r = 0 := by rw [← hr.out]; rfl
                subst e2
                clear hs1 hs2 hs3 hs4 hAd hDd h2 e1 h64 hr hdp hsz hA hD
                go_wp2_with (go_at_call 57; refine (ih.out q (dep + 1) _ [.string q.op, .string q.key, .int .i64 q.vk, .int .i64 q.vn, .string q.vs, .int .u64 q.n, .slice A6 q.kids.length c6] _ true (m : Int) (by omega) (by omega) ((kp 53 (d' + 1)).K_below (below_alloc (Below.refl _ _) _) hKq.out) hok.out (by rw [if_pos rfl, hm])).mono ?_; rintro e w2 ⟨rfl, hb2⟩; replace hb2 := Aside0.mk (hB.out.trans ((((Below.refl _ wr).alloc (Nat.le_refl _) _).trans (hb2.mono (by rw [size_alloc]; omega))).mono hB.out.size)))
                go_ret2
                exact ⟨rfl, hb2.out⟩
              · have h64I : ¬ (a : Int) + (m : Int) > 64 := by omega
                have hA2 := Aside0.mk (show a + m = 1 + ((p.kids.take (j + 1)).map (sz (d' + 1))).sum by omega)
                have hD2 := Aside0.mk (show ((p.kids.take (j + 1)).map (dp (d' + 1))).foldl max 0 + (dep + 1) ≤ 9 by omega)
                clear hs1 hs2 hs3 hs4 hAd hDd h2 hA hD
                go_wp2_with (go_at_call 57; refine (ih.out q (dep + 1) _ [.string q.op, .string q.key, .int .i64 q.vk, .int .i64 q.vn, .string q.vs, .int .u64 q.n, .slice A6 q.kids.length c6] _ true (m : Int) (by omega) (by omega) ((kp 53 (d' + 1)).K_below (below_alloc (Below.refl _ _) _) hKq.out) hok.out (by rw [if_pos rfl, hm])).mono ?_; rintro e w2 ⟨rfl, hb2⟩; replace hb2 := Aside0.mk (hB.out.trans ((((Below.refl _ wr).alloc (Nat.le_refl _) _).trans (hb2.mono (by rw [size_alloc]; omega))).mono hB.out.size)))
                go_roundg k1
                case measure => omega
                case rel => exact ⟨j + 1, a + m, by first | rfl | simp, rfl, by omega, by omega, by omega, hA2, hD2, hb2⟩
            · replace hok : szok (d' + 1) q (dep + 1) = false := by simpa using hok
              have h2 := szok_no.1 hok
              have e1 : szok (d' + 1 + 1) p dep = false := szok_no.2 (by have := hsz.out; have := hdp.out; have := sz_pos d' q; omega)
              have hb' := hb.out
              rw [e1] at hb'
              subst hb'
              have e2 : r = 0 := by rw [← hr.out]; rfl
              subst e2
              replace hok := Aside0.mk hok
              clear hs1 hs2 hs3 hs4 hAd hDd h2 e1 hr hdp hsz hA hD
              go_wp2_with (go_at_call 57; refine (ih.out q (dep + 1) _ [.string q.op, .string q.key, .int .i64 q.vk, .int .i64 q.vn, .string q.vs, .int .u64 q.n, .slice A6 q.kids.length c6] _ false 0 (by omega) (by omega) ((kp 53 (d' + 1)).K_below (below_alloc (Below.refl _ _) _) hKq.out) hok.out rfl).mono ?_; rintro e w2 ⟨rfl, hb2⟩; replace hb2 := Aside0.mk (hB.out.trans ((((Below.refl _ wr).alloc (Nat.le_refl _) _).trans (hb2.mono (by rw [size_alloc]; omega))).mono hB.out.size)))
              go_ret2
              exact ⟨rfl, hb2.out⟩
        · obtain rfl : j = n := by omega
          have hAd := hA.out
          have hDd := hD.out
          rw [List.take_of_length_le (by omega)] at hAd hDd
          have e1 : szok (d + 1) p dep = true := szok_iff.2 (by have := hsz.out; have := hdp.out; omega)
          have hb' := hb.out
          rw [e1] at hb'
          subst hb'
          have e2 : r = (a : Int) := by rw [← hr.out, if_pos rfl, hsz.out, hAd]
          subst e2
          clear hAd hDd e1 hr hdp hsz hA hD hk
          go_wp2
          go_ret2
          exact ⟨rfl, hB.out⟩
set_option maxHeartbeats 8000000 in
set_option maxRecDepth 1000000 in
theorem Size_w : ∀ (d : Nat) (p : Pol) (cs : List Value) (w : World) (r : Int), (kp 43 d).K w p cs → ((min (sz d p) 100 : Nat) : Int) = r →
    Calls Try.prog 47 #[.agg cs.toArray] w fun e w' => e = .returned (.int .i64 r) ∧ Below w.heap.size w w' := by
  intro d
  induction d with
  | zero => intro p cs w r hK; exact (kp_no hK).elim
  | succ d ih =>
    intro p cs w r hK hr
    obtain ⟨A, c, rfl, hc, hC⟩ := kp_open hK
    clear hK
    replace ih := Aside0.mk ih
    show Calls Try.prog 47 #[.agg #[.string p.op, .string p.key, .int .i64 p.vk, .int .i64 p.vn, .string p.vs, .int .u64 p.n, .slice A p.kids.length c]] w _
    have hT := Aside0.mk ((Bx.start w).new [.string p.op, .string p.key, .int .i64 p.vk, .int .i64 p.vn, .string p.vs, .int .u64 p.n, .slice A p.kids.length c] 43)
    obtain ⟨n, hn⟩ : ∃ n, p.kids.length = n := ⟨_, rfl⟩
    have hnm := Kd.C_max hC
    rw [hn] at hC hT hnm ⊢
    replace hC := Aside0.mk hC
    have hdp := Aside0.mk (show dp (d + 1) p = 1 + (p.kids.map (dp d)).foldl max 0 from rfl)
    have hsz := Aside0.mk (show sz (d + 1) p = 1 + (p.kids.map (sz d)).sum from rfl)
    obtain ⟨y6, z6⟩ := hT.out.row (List.mem_cons_self ..) 6 _ rfl
    go_enter Try.func47, Try.ntmps47
    go_wp2
    replace hr := Aside0.mk hr
    go_loopg [3, 4] (n + 1) (fun kq v3 v4 wr => ∃ (j a : Nat), v3 = .int .i64 (a : Int) ∧ v4 = .int .i64 (j : Int) ∧ j ≤ n ∧ a ≤ 100 ∧ n - j < kq ∧ Aside0 (a = 1 + ((p.kids.take j).map (sz d)).sum) ∧ Aside0 (Bx w wr [(w.heap.size, [.string p.op, .string p.key, .int .i64 p.vk, .int .i64 p.vn, .string p.vs, .int .u64 p.n, .slice A n c])]))
    case atStart => exact ⟨0, 1, rfl, rfl, Nat.zero_le _, by omega, by omega, ⟨by simp⟩, hT⟩
    case round =>
      clear y6 z6 hT
      obtain ⟨j, a, rfl, rfl, hj, ha, hk, hA, hT⟩ := hrel
      obtain ⟨k1, rfl⟩ : ∃ m, gk = m + 1 := ⟨gk - 1, by omega⟩
      obtain ⟨y6, z6⟩ := hT.out.row (List.mem_cons_self ..) 6 _ rfl
      have hj0 : (0 : Int) ≤ (j : Int) := by omega
      by_cases hjn : j < n
      · have hjnI : (j : Int) < (n : Int) := by omega
        have hjl : j < p.kids.length := by omega
        cases d with
        | zero => exact absurd hjl (by rw [kp_none hC.out]; simp)
        | succ d' =>
            obtain ⟨ad, A6, c6, rfl, x0, x1, x2, x3, x4, x5, x6, l6, g6⟩ := kp_at (Kd.C_below hC.out hT.out.b) j hjl hjn
            have hs1 := kid_sz (d := d' + 1) p j hjl
            have hs2 := kid_sum (d := d' + 1) p (j + 1)
            have hs3 := kid_dp (d := d' + 1) p j hjl
            have hs4 := kid_max (d := d' + 1) p (j + 1)
            generalize hq : p.kids[j] = q at *
            have hKq := Aside0.mk (kp_mk (e := 43) wr q l6 g6)
            clear hq g6 l6
            have hAd := hA.out
            obtain ⟨m, hm⟩ : ∃ m, min (sz (d' + 1) q) 100 = m := ⟨_, rfl⟩
            have hm100 : m ≤ 100 := by omega
            by_cases h64 : a + m > 100
            · have h64I : (a : Int) + (m : Int) > 100 := by omega
              have e2 : r = 100 := by have := hr.out; have := hsz.out; omega
              subst e2
              replace hm := Aside0.mk hm
              clear hs1 hs2 hs3 hs4 hAd h64 hr hdp hsz hA
              go_wp2_with (go_at_call 47; refine (ih.out q [.string q.op, .string q.key, .int .i64 q.vk, .int .i64 q.vn, .string q.vs, .int .u64 q.n, .slice A6 q.kids.length c6] _ (m : Int) hKq.out (by rw [hm.out])).mono ?_; rintro e w2 ⟨rfl, hb2⟩; replace hT := Aside0.mk (hT.out.keep hb2); clear hb2)
              go_ret
              exact ⟨rfl, hT.out.b⟩
            · have h64I : ¬ (a : Int) + (m : Int) > 100 := by omega
              have hA2 := Aside0.mk (show a + m = 1 + ((p.kids.take (j + 1)).map (sz (d' + 1))).sum by have := sz_pos d' q; omega)
              replace hm := Aside0.mk hm
              clear hs1 hs2 hs3 hs4 hAd hA
              go_wp2_with (go_at_call 47; refine (ih.out q [.string q.op, .string q.key, .int .i64 q.vk, .int .i64 q.vn, .string q.vs, .int .u64 q.n, .slice A6 q.kids.length c6] _ (m : Int) hKq.out (by rw [hm.out])).mono ?_; rintro e w2 ⟨rfl, hb2⟩; replace hT := Aside0.mk (hT.out.keep hb2); clear hb2)
              go_roundg k1
              case measure => omega
              case rel => exact ⟨j + 1, a + m, by first | rfl | simp, rfl, by omega, by omega, by omega, hA2, hT⟩
      · obtain rfl : j = n := by omega
        have hAd := hA.out
        rw [List.take_of_length_le (by omega)] at hAd
        have e2 : r = (a : Int) := by have := hr.out; have := hsz.out; omega
        subst e2
        clear hAd hr hdp hsz hA hk
        go_wp2
        go_ret
        exact ⟨rfl, hT.out.b⟩
set_option maxHeartbeats 8000000 in
set_option maxRecDepth 1000000 in
theorem Depth_w : ∀ (d : Nat) (p : Pol) (cs : List Value) (w : World) (r : Int), (kp 43 d).K w p cs → dp d p ≤ 1000000 → ((dp d p : Nat) : Int) = r →
    Calls Try.prog 48 #[.agg cs.toArray] w fun e w' => e = .returned (.int .i64 r) ∧ Below w.heap.size w w' := by
  intro d
  induction d with
  | zero => intro p cs w r hK; exact (kp_no hK).elim
  | succ d ih =>
    intro p cs w r hK hbig hr
    obtain ⟨A, c, rfl, hc, hC⟩ := kp_open hK
    clear hK
    replace ih := Aside0.mk ih
    show Calls Try.prog 48 #[.agg #[.string p.op, .string p.key, .int .i64 p.vk, .int .i64 p.vn, .string p.vs, .int .u64 p.n, .slice A p.kids.length c]] w _
    have hT := Aside0.mk ((Bx.start w).new [.string p.op, .string p.key, .int .i64 p.vk, .int .i64 p.vn, .string p.vs, .int .u64 p.n, .slice A p.kids.length c] 43)
    obtain ⟨n, hn⟩ : ∃ n, p.kids.length = n := ⟨_, rfl⟩
    have hnm := Kd.C_max hC
    rw [hn] at hC hT hnm ⊢
    replace hC := Aside0.mk hC
    have hdp := Aside0.mk (show dp (d + 1) p = 1 + (p.kids.map (dp d)).foldl max 0 from rfl)
    have hsz := Aside0.mk (show sz (d + 1) p = 1 + (p.kids.map (sz d)).sum from rfl)
    obtain ⟨y6, z6⟩ := hT.out.row (List.mem_cons_self ..) 6 _ rfl
    go_enter Try.func48, Try.ntmps48
    go_wp2
    replace hr := Aside0.mk hr
    replace hbig := Aside0.mk hbig
    go_loopg [3, 4] (n + 1) (fun kq v3 v4 wr => ∃ (j a : Nat), v3 = .int .i64 (a : Int) ∧ v4 = .int .i64 (j : Int) ∧ j ≤ n ∧ a ≤ 1000000 ∧ n - j < kq ∧ Aside0 (a = ((p.kids.take j).map (dp d)).foldl max 0) ∧ Aside0 (Bx w wr [(w.heap.size, [.string p.op, .string p.key, .int .i64 p.vk, .int .i64 p.vn, .string p.vs, .int .u64 p.n, .slice A n c])]))
    case atStart => exact ⟨0, 0, rfl, rfl, Nat.zero_le _, by omega, by omega, ⟨by simp⟩, hT⟩
    case round =>
      clear y6 z6 hT
      obtain ⟨j, a, rfl, rfl, hj, ha, hk, hA, hT⟩ := hrel
      obtain ⟨k1, rfl⟩ : ∃ m, gk = m + 1 := ⟨gk - 1, by omega⟩
      obtain ⟨y6, z6⟩ := hT.out.row (List.mem_cons_self ..) 6 _ rfl
      have hj0 : (0 : Int) ≤ (j : Int) := by omega
      by_cases hjn : j < n
      · have hjnI : (j : Int) < (n : Int) := by omega
        have hjl : j < p.kids.length := by omega
        cases d with
        | zero => exact absurd hjl (by rw [kp_none hC.out]; simp)
        | succ d' =>
            obtain ⟨ad, A6, c6, rfl, x0, x1, x2, x3, x4, x5, x6, l6, g6⟩ := kp_at (Kd.C_below hC.out hT.out.b) j hjl hjn
            have hs1 := kid_sz (d := d' + 1) p j hjl
            have hs2 := kid_sum (d := d' + 1) p (j + 1)
            have hs3 := kid_dp (d := d' + 1) p j hjl
            have hs4 := kid_max (d := d' + 1) p (j + 1)
            generalize hq : p.kids[j] = q at *
            have hKq := Aside0.mk (kp_mk (e := 43) wr q l6 g6)
            clear hq g6 l6
            have hAd := hA.out
            obtain ⟨m, hm⟩ : ∃ m, dp (d' + 1) q = m := ⟨_, rfl⟩
            rw [hm] at hs3
            have hm100 : m ≤ 1000000 := by have := hdp.out; have := hbig.out; omega
            replace hm := Aside0.mk hm
            by_cases h64 : m > a
            · have h64I : (m : Int) > (a : Int) := by omega
              have hA2 := Aside0.mk (show m = ((p.kids.take (j + 1)).map (dp (d' + 1))).foldl max 0 by omega)
              clear hs1 hs2 hs3 hs4 hAd hA
              go_wp2_with (go_at_call 48; refine (ih.out q [.string q.op, .string q.key, .int .i64 q.vk, .int .i64 q.vn, .string q.vs, .int .u64 q.n, .slice A6 q.kids.length c6] _ (m : Int) hKq.out (by rw [hm.out]; omega) (by rw [hm.out])).mono ?_; rintro e w2 ⟨rfl, hb2⟩; replace hT := Aside0.mk (hT.out.keep hb2); clear hb2)
              go_roundg k1
              case measure => omega
              case rel => exact ⟨j + 1, m, by first | rfl | simp, rfl, by omega, by omega, by omega, hA2, hT⟩
            · have h64I : ¬ (m : Int) > (a : Int) := by omega
              have hA2 := Aside0.mk (show a = ((p.kids.take (j + 1)).map (dp (d' + 1))).foldl max 0 by omega)
              clear hs1 hs2 hs3 hs4 hAd hA
              go_wp2_with (go_at_call 48; refine (ih.out q [.string q.op, .string q.key, .int .i64 q.vk, .int .i64 q.vn, .string q.vs, .int .u64 q.n, .slice A6 q.kids.length c6] _ (m : Int) hKq.out (by rw [hm.out]; omega) (by rw [hm.out])).mono ?_; rintro e w2 ⟨rfl, hb2⟩; replace hT := Aside0.mk (hT.out.keep hb2); clear hb2)
              go_roundg k1
              case measure => omega
              case rel => exact ⟨j + 1, a, by first | rfl | simp, rfl, by omega, by omega, by omega, hA2, hT⟩
      · obtain rfl : j = n := by omega
        have hAd := hA.out
        rw [List.take_of_length_le (by omega)] at hAd
        have e2 : r = (a : Int) + 1 := by have := hr.out; have := hdp.out; omega
        subst e2
        clear hAd hr hdp hsz hA hk hbig
        go_wp2
        go_ret
        exact ⟨by first | rfl | simp, hT.out.b⟩
end Go.Proofs.Ytgpkihnihmbomaa.Pt
