/- Is a policy right by the document? right, walked. No conditions but bounds. -/
import Derived.Test.YtgpkihnihmbomaaPf
namespace Go.Proofs.Ytgpkihnihmbomaa.Pt
open Go.RowKit Go.Proofs.YtgpkihnihmbomaaW.PrintWords Go.Proofs.YtgpkihnihmbomaaW.PrintLast
open Go.Proofs.Ytgpkihnihmbomaa.Ob Go.Proofs.Ytgpkihnihmbomaa.Two Go.Proofs.Ytgpkihnihmbomaa.Bx
set_option linter.unusedSimpArgs false
set_option linter.unusedVariables false
theorem eqA40 (d : Nat) (w : World) (x0 y0 : Int) (x1 y1 : Int) (x2 y2 : ByteArray) :
    (Op.equalIn (d + 2) 40 (.agg #[.int .i64 x0, .int .i64 x1, .string x2]) (.agg #[.int .i64 y0, .int .i64 y1, .string y2])).run Try.prog w = .ok (x0 == y0 && (x1 == y1 && (x2.toList == y2.toList))) w := by
  refine eqA_of Try.underlying40 (by kernel_rfl) ?_
  refine eqf_cons (by rfl) (by go_simp; rfl) (by go_simp; rfl) (by go_simp) ?_
  refine eqf_cons (by rfl) (by go_simp; rfl) (by go_simp; rfl) (by go_simp) ?_
  exact eqf_last (by rfl) (by go_simp; rfl) (by go_simp; rfl) (by go_simp)
/-- Are all of these right? -/
def allk (d : Nat) (l : List Pol) : Bool := l.all (fm d)
theorem allk_snoc {d : Nat} {l : List Pol} {j : Nat} (h : j < l.length) : allk d (l.take (j + 1)) = (allk d (l.take j) && fm d l[j]) := by
  unfold allk; rw [List.take_succ_eq_append_getElem h, List.all_append]; simp
theorem allk_any (d : Nat) (l : List Pol) : (!anyk l (fun q => !fm d q)) = allk d l := by
  unfold allk anyk
  induction l with
  | nil => rfl
  | cons a r ih => rw [List.any_cons, List.all_cons, Bool.not_or, Bool.not_not, ih]
attribute [local go_sem high] eqA40
set_option maxHeartbeats 16000000 in
set_option maxRecDepth 1000000 in
theorem right_0 (d n c : Nat) (op key vs : ByteArray) (vk vn pn : Int) (kids : List Pol) (A : Option Addr) (w : World) (b : Bool) (hn : kids.length = n) (hkl : key.size ≤ 200) (hC : (kp 43 d).C w A n kids) (hF : Aside0 (∀ q cs W, q ∈ kids → (kp 43 d).K W q cs → Calls Try.prog 49 #[.agg cs.toArray] W fun e w' => e = .returned (.bool (fm d q)) ∧ Below W.heap.size W w')) (hb : fm (d + 1) (⟨op, key, vk, vn, vs, pn, kids⟩ : Pol) = b) (hop0 : op.toList = [97, 108, 108]) :
    Calls Try.prog 49 #[.agg #[.string op, .string key, .int .i64 vk, .int .i64 vn, .string vs, .int .u64 pn, .slice A n c]] w fun e w' => e = .returned (.bool b) ∧ Below w.heap.size w w' := by
  replace hkl := Aside0.mk hkl
  have hnm := Kd.C_max hC
  have hT1 := (Bx.start w).new [.string op, .string key, .int .i64 vk, .int .i64 vn, .string vs, .int .u64 pn, .slice A n c] 43
  have e1 := size_alloc w (.cells #[.string op, .string key, .int .i64 vk, .int .i64 vn, .string vs, .int .u64 pn, .slice A n c] 43)
  have hT := hT1.new [.int .i64 0, .int .i64 0, .string ⟨#[]⟩] 40
  rw [e1] at hT
  obtain ⟨TL, hTL⟩ : ∃ TL : List (Nat × List Value), [(w.heap.size + 1, [.int .i64 0, .int .i64 0, .string ⟨#[]⟩]), (w.heap.size, [.string op, .string key, .int .i64 vk, .int .i64 vn, .string vs, .int .u64 pn, .slice A n c])] = TL := ⟨_, rfl⟩
  rw [hTL] at hT
  replace hT := Aside0.mk hT
  have hRow := Aside0.mk (fun W (h : Bx w W TL) => h.row (g := w.heap.size) (cs := [.string op, .string key, .int .i64 vk, .int .i64 vn, .string vs, .int .u64 pn, .slice A n c]) (by rw [← hTL]; simp))
  clear hT1 e1 hTL
  replace hC := Aside0.mk hC
  have hNo := Aside0.mk (fun k (h1 : opc op.toList = k) (h2 : ownC (⟨op, key, vk, vn, vs, pn, kids⟩ : Pol) n k = false) => fm_no (d := d) (p := (⟨op, key, vk, vn, vs, pn, kids⟩ : Pol)) h1 (own_at hn h2))
  have hYes := Aside0.mk (fun k (h1 : opc op.toList = k) (h2 : ownC (⟨op, key, vk, vn, vs, pn, kids⟩ : Pol) n k = true) => (fm_yes (d := d) (p := (⟨op, key, vk, vn, vs, pn, kids⟩ : Pol)) h1 (own_at hn h2)).trans (allk_any d kids))
  replace hn := Aside0.mk hn
  replace hb := Aside0.mk hb
  have hcode := Aside0.mk (show opc op.toList = 0 by rw [hop0]; decide)
  by_cases g0 : key.toList = []
  · by_cases g1 : vk = 0 ∧ vn = 0 ∧ vs.toList = []
    · obtain ⟨rfl, rfl, gv1⟩ := g1
      by_cases g2 : pn = 0
      · subst g2
        by_cases g3 : n = 0
        · subst g3
          have hown := hYes.out 0 hcode.out (decide_eq_true ⟨g0, ⟨rfl, rfl, gv1⟩, rfl, rfl⟩)
          have hb' := hb.out
          rw [hown] at hb'
          subst hb'
          clear hown hcode hNo hYes
          go_enter Try.func49, Try.ntmps49
          go_wp2
          go_loopg [4, 5] (0 + 1) (fun kq v4 v5 wr => ∃ (j : Nat) (r : Bool), v4 = .bool r ∧ v5 = .int .i64 (j : Int) ∧ j ≤ 0 ∧ 0 - j < kq ∧ Aside0 (allk d (kids.take j) = r) ∧ Aside0 (Bx w wr TL))
          case atStart => exact ⟨0, true, rfl, rfl, Nat.zero_le _, by omega, ⟨rfl⟩, hT⟩
          case round =>
            clear hT
            obtain ⟨j, r, rfl, rfl, hj, hk, hA, hT⟩ := hrel
            obtain ⟨k1, rfl⟩ : ∃ m, gk = m + 1 := ⟨gk - 1, by omega⟩
            obtain ⟨y6, z6⟩ := (hRow.out _ hT.out) 6 _ rfl
            have hj0 : (0 : Int) ≤ (j : Int) := by omega
            obtain rfl : j = 0 := by omega
            have hjnI : ¬ (((0 : Nat) : Int) : Int) < ((0 : Nat) : Int) := by omega
            have hall : kids.take 0 = kids := List.take_of_length_le (by rw [hn.out]; omega)
            have hA2 := hA.out
            rw [hall] at hA2
            replace hA2 := Aside0.mk hA2
            clear hk hall hA
            go_wp2
            go_ret
            exact ⟨by rw [hA2.out]; rfl, hT.out.b⟩
        · have hown := hNo.out 0 hcode.out (decide_eq_false (by rintro ⟨g0_, g1_, g2_, g3_⟩; exact absurd g3_ g3))
          have hb' := hb.out
          rw [hown] at hb'
          subst hb'
          clear hown hF hcode hNo hYes
          have gI : ((n : Int) == 0) = false := by rw [beq_eq_false_iff_ne]; omega
          go_enter Try.func49, Try.ntmps49
          go_wp2
          go_loopg [4, 5] (n + 1) (fun kq v4 v5 wr => ∃ (j : Nat), v4 = .bool false ∧ v5 = .int .i64 (j : Int) ∧ j ≤ n ∧ n - j < kq ∧ Aside0 (Bx w wr TL))
          case atStart => exact ⟨0, rfl, rfl, Nat.zero_le _, by omega, hT⟩
          case round =>
            clear hT
            obtain ⟨j, rfl, rfl, hj, hk, hT⟩ := hrel
            obtain ⟨k1, rfl⟩ : ∃ m, gk = m + 1 := ⟨gk - 1, by omega⟩
            obtain ⟨y6, z6⟩ := (hRow.out _ hT.out) 6 _ rfl
            by_cases hjn : j < n
            · have hjnI : (j : Int) < (n : Int) := by omega
              go_wp2
              go_roundg k1
              case measure => omega
              case rel => exact ⟨j + 1, rfl, rfl, by omega, by omega, hT⟩
            · have hjnI : ¬ (j : Int) < (n : Int) := by omega
              clear hk
              go_wp2
              go_ret
              exact ⟨rfl, hT.out.b⟩
      · have hown := hNo.out 0 hcode.out (decide_eq_false (by rintro ⟨g0_, g1_, g2_, g3_⟩; exact absurd g2_ g2))
        have hb' := hb.out
        rw [hown] at hb'
        subst hb'
        clear hown hF hcode hNo hYes
        go_enter Try.func49, Try.ntmps49
        go_wp2
        go_loopg [4, 5] (n + 1) (fun kq v4 v5 wr => ∃ (j : Nat), v4 = .bool false ∧ v5 = .int .i64 (j : Int) ∧ j ≤ n ∧ n - j < kq ∧ Aside0 (Bx w wr TL))
        case atStart => exact ⟨0, rfl, rfl, Nat.zero_le _, by omega, hT⟩
        case round =>
          clear hT
          obtain ⟨j, rfl, rfl, hj, hk, hT⟩ := hrel
          obtain ⟨k1, rfl⟩ : ∃ m, gk = m + 1 := ⟨gk - 1, by omega⟩
          obtain ⟨y6, z6⟩ := (hRow.out _ hT.out) 6 _ rfl
          by_cases hjn : j < n
          · have hjnI : (j : Int) < (n : Int) := by omega
            go_wp2
            go_roundg k1
            case measure => omega
            case rel => exact ⟨j + 1, rfl, rfl, by omega, by omega, hT⟩
          · have hjnI : ¬ (j : Int) < (n : Int) := by omega
            clear hk
            go_wp2
            go_ret
            exact ⟨rfl, hT.out.b⟩
    · have hown := hNo.out 0 hcode.out (decide_eq_false (by rintro ⟨g0_, g1_, g2_, g3_⟩; exact absurd g1_ g1))
      have hb' := hb.out
      rw [hown] at hb'
      subst hb'
      clear hown hF hcode hNo hYes
      go_enter Try.func49, Try.ntmps49
      go_wp2
      go_loopg [4, 5] (n + 1) (fun kq v4 v5 wr => ∃ (j : Nat), v4 = .bool false ∧ v5 = .int .i64 (j : Int) ∧ j ≤ n ∧ n - j < kq ∧ Aside0 (Bx w wr TL))
      case atStart => exact ⟨0, rfl, rfl, Nat.zero_le _, by omega, hT⟩
      case round =>
        clear hT
        obtain ⟨j, rfl, rfl, hj, hk, hT⟩ := hrel
        obtain ⟨k1, rfl⟩ : ∃ m, gk = m + 1 := ⟨gk - 1, by omega⟩
        obtain ⟨y6, z6⟩ := (hRow.out _ hT.out) 6 _ rfl
        by_cases hjn : j < n
        · have hjnI : (j : Int) < (n : Int) := by omega
          go_wp2
          go_roundg k1
          case measure => omega
          case rel => exact ⟨j + 1, rfl, rfl, by omega, by omega, hT⟩
        · have hjnI : ¬ (j : Int) < (n : Int) := by omega
          clear hk
          go_wp2
          go_ret
          exact ⟨rfl, hT.out.b⟩
  · have hown := hNo.out 0 hcode.out (decide_eq_false (by rintro ⟨g0_, g1_, g2_, g3_⟩; exact absurd g0_ g0))
    have hb' := hb.out
    rw [hown] at hb'
    subst hb'
    clear hown hF hcode hNo hYes
    go_enter Try.func49, Try.ntmps49
    go_wp2
    go_loopg [4, 5] (n + 1) (fun kq v4 v5 wr => ∃ (j : Nat), v4 = .bool false ∧ v5 = .int .i64 (j : Int) ∧ j ≤ n ∧ n - j < kq ∧ Aside0 (Bx w wr TL))
    case atStart => exact ⟨0, rfl, rfl, Nat.zero_le _, by omega, hT⟩
    case round =>
      clear hT
      obtain ⟨j, rfl, rfl, hj, hk, hT⟩ := hrel
      obtain ⟨k1, rfl⟩ : ∃ m, gk = m + 1 := ⟨gk - 1, by omega⟩
      obtain ⟨y6, z6⟩ := (hRow.out _ hT.out) 6 _ rfl
      by_cases hjn : j < n
      · have hjnI : (j : Int) < (n : Int) := by omega
        go_wp2
        go_roundg k1
        case measure => omega
        case rel => exact ⟨j + 1, rfl, rfl, by omega, by omega, hT⟩
      · have hjnI : ¬ (j : Int) < (n : Int) := by omega
        clear hk
        go_wp2
        go_ret
        exact ⟨rfl, hT.out.b⟩
set_option maxHeartbeats 16000000 in
set_option maxRecDepth 1000000 in
theorem right_1 (d n c : Nat) (op key vs : ByteArray) (vk vn pn : Int) (kids : List Pol) (A : Option Addr) (w : World) (b : Bool) (hn : kids.length = n) (hkl : key.size ≤ 200) (hC : (kp 43 d).C w A n kids) (hF : Aside0 (∀ q cs W, q ∈ kids → (kp 43 d).K W q cs → Calls Try.prog 49 #[.agg cs.toArray] W fun e w' => e = .returned (.bool (fm d q)) ∧ Below W.heap.size W w')) (hb : fm (d + 1) (⟨op, key, vk, vn, vs, pn, kids⟩ : Pol) = b) (hop1 : op.toList = [110, 111, 110, 101]) :
    Calls Try.prog 49 #[.agg #[.string op, .string key, .int .i64 vk, .int .i64 vn, .string vs, .int .u64 pn, .slice A n c]] w fun e w' => e = .returned (.bool b) ∧ Below w.heap.size w w' := by
  replace hkl := Aside0.mk hkl
  have hnm := Kd.C_max hC
  have hT1 := (Bx.start w).new [.string op, .string key, .int .i64 vk, .int .i64 vn, .string vs, .int .u64 pn, .slice A n c] 43
  have e1 := size_alloc w (.cells #[.string op, .string key, .int .i64 vk, .int .i64 vn, .string vs, .int .u64 pn, .slice A n c] 43)
  have hT := hT1.new [.int .i64 0, .int .i64 0, .string ⟨#[]⟩] 40
  rw [e1] at hT
  obtain ⟨TL, hTL⟩ : ∃ TL : List (Nat × List Value), [(w.heap.size + 1, [.int .i64 0, .int .i64 0, .string ⟨#[]⟩]), (w.heap.size, [.string op, .string key, .int .i64 vk, .int .i64 vn, .string vs, .int .u64 pn, .slice A n c])] = TL := ⟨_, rfl⟩
  rw [hTL] at hT
  replace hT := Aside0.mk hT
  have hRow := Aside0.mk (fun W (h : Bx w W TL) => h.row (g := w.heap.size) (cs := [.string op, .string key, .int .i64 vk, .int .i64 vn, .string vs, .int .u64 pn, .slice A n c]) (by rw [← hTL]; simp))
  clear hT1 e1 hTL
  replace hC := Aside0.mk hC
  have hNo := Aside0.mk (fun k (h1 : opc op.toList = k) (h2 : ownC (⟨op, key, vk, vn, vs, pn, kids⟩ : Pol) n k = false) => fm_no (d := d) (p := (⟨op, key, vk, vn, vs, pn, kids⟩ : Pol)) h1 (own_at hn h2))
  have hYes := Aside0.mk (fun k (h1 : opc op.toList = k) (h2 : ownC (⟨op, key, vk, vn, vs, pn, kids⟩ : Pol) n k = true) => (fm_yes (d := d) (p := (⟨op, key, vk, vn, vs, pn, kids⟩ : Pol)) h1 (own_at hn h2)).trans (allk_any d kids))
  replace hn := Aside0.mk hn
  replace hb := Aside0.mk hb
  have hcode := Aside0.mk (show opc op.toList = 0 by rw [hop1]; decide)
  by_cases g0 : key.toList = []
  · by_cases g1 : vk = 0 ∧ vn = 0 ∧ vs.toList = []
    · obtain ⟨rfl, rfl, gv1⟩ := g1
      by_cases g2 : pn = 0
      · subst g2
        by_cases g3 : n = 0
        · subst g3
          have hown := hYes.out 0 hcode.out (decide_eq_true ⟨g0, ⟨rfl, rfl, gv1⟩, rfl, rfl⟩)
          have hb' := hb.out
          rw [hown] at hb'
          subst hb'
          clear hown hcode hNo hYes
          go_enter Try.func49, Try.ntmps49
          go_wp2
          go_loopg [4, 5] (0 + 1) (fun kq v4 v5 wr => ∃ (j : Nat) (r : Bool), v4 = .bool r ∧ v5 = .int .i64 (j : Int) ∧ j ≤ 0 ∧ 0 - j < kq ∧ Aside0 (allk d (kids.take j) = r) ∧ Aside0 (Bx w wr TL))
          case atStart => exact ⟨0, true, rfl, rfl, Nat.zero_le _, by omega, ⟨rfl⟩, hT⟩
          case round =>
            clear hT
            obtain ⟨j, r, rfl, rfl, hj, hk, hA, hT⟩ := hrel
            obtain ⟨k1, rfl⟩ : ∃ m, gk = m + 1 := ⟨gk - 1, by omega⟩
            obtain ⟨y6, z6⟩ := (hRow.out _ hT.out) 6 _ rfl
            have hj0 : (0 : Int) ≤ (j : Int) := by omega
            obtain rfl : j = 0 := by omega
            have hjnI : ¬ (((0 : Nat) : Int) : Int) < ((0 : Nat) : Int) := by omega
            have hall : kids.take 0 = kids := List.take_of_length_le (by rw [hn.out]; omega)
            have hA2 := hA.out
            rw [hall] at hA2
            replace hA2 := Aside0.mk hA2
            clear hk hall hA
            go_wp2
            go_ret
            exact ⟨by rw [hA2.out]; rfl, hT.out.b⟩
        · have hown := hNo.out 0 hcode.out (decide_eq_false (by rintro ⟨g0_, g1_, g2_, g3_⟩; exact absurd g3_ g3))
          have hb' := hb.out
          rw [hown] at hb'
          subst hb'
          clear hown hF hcode hNo hYes
          have gI : ((n : Int) == 0) = false := by rw [beq_eq_false_iff_ne]; omega
          go_enter Try.func49, Try.ntmps49
          go_wp2
          go_loopg [4, 5] (n + 1) (fun kq v4 v5 wr => ∃ (j : Nat), v4 = .bool false ∧ v5 = .int .i64 (j : Int) ∧ j ≤ n ∧ n - j < kq ∧ Aside0 (Bx w wr TL))
          case atStart => exact ⟨0, rfl, rfl, Nat.zero_le _, by omega, hT⟩
          case round =>
            clear hT
            obtain ⟨j, rfl, rfl, hj, hk, hT⟩ := hrel
            obtain ⟨k1, rfl⟩ : ∃ m, gk = m + 1 := ⟨gk - 1, by omega⟩
            obtain ⟨y6, z6⟩ := (hRow.out _ hT.out) 6 _ rfl
            by_cases hjn : j < n
            · have hjnI : (j : Int) < (n : Int) := by omega
              go_wp2
              go_roundg k1
              case measure => omega
              case rel => exact ⟨j + 1, rfl, rfl, by omega, by omega, hT⟩
            · have hjnI : ¬ (j : Int) < (n : Int) := by omega
              clear hk
              go_wp2
              go_ret
              exact ⟨rfl, hT.out.b⟩
      · have hown := hNo.out 0 hcode.out (decide_eq_false (by rintro ⟨g0_, g1_, g2_, g3_⟩; exact absurd g2_ g2))
        have hb' := hb.out
        rw [hown] at hb'
        subst hb'
        clear hown hF hcode hNo hYes
        go_enter Try.func49, Try.ntmps49
        go_wp2
        go_loopg [4, 5] (n + 1) (fun kq v4 v5 wr => ∃ (j : Nat), v4 = .bool false ∧ v5 = .int .i64 (j : Int) ∧ j ≤ n ∧ n - j < kq ∧ Aside0 (Bx w wr TL))
        case atStart => exact ⟨0, rfl, rfl, Nat.zero_le _, by omega, hT⟩
        case round =>
          clear hT
          obtain ⟨j, rfl, rfl, hj, hk, hT⟩ := hrel
          obtain ⟨k1, rfl⟩ : ∃ m, gk = m + 1 := ⟨gk - 1, by omega⟩
          obtain ⟨y6, z6⟩ := (hRow.out _ hT.out) 6 _ rfl
          by_cases hjn : j < n
          · have hjnI : (j : Int) < (n : Int) := by omega
            go_wp2
            go_roundg k1
            case measure => omega
            case rel => exact ⟨j + 1, rfl, rfl, by omega, by omega, hT⟩
          · have hjnI : ¬ (j : Int) < (n : Int) := by omega
            clear hk
            go_wp2
            go_ret
            exact ⟨rfl, hT.out.b⟩
    · have hown := hNo.out 0 hcode.out (decide_eq_false (by rintro ⟨g0_, g1_, g2_, g3_⟩; exact absurd g1_ g1))
      have hb' := hb.out
      rw [hown] at hb'
      subst hb'
      clear hown hF hcode hNo hYes
      go_enter Try.func49, Try.ntmps49
      go_wp2
      go_loopg [4, 5] (n + 1) (fun kq v4 v5 wr => ∃ (j : Nat), v4 = .bool false ∧ v5 = .int .i64 (j : Int) ∧ j ≤ n ∧ n - j < kq ∧ Aside0 (Bx w wr TL))
      case atStart => exact ⟨0, rfl, rfl, Nat.zero_le _, by omega, hT⟩
      case round =>
        clear hT
        obtain ⟨j, rfl, rfl, hj, hk, hT⟩ := hrel
        obtain ⟨k1, rfl⟩ : ∃ m, gk = m + 1 := ⟨gk - 1, by omega⟩
        obtain ⟨y6, z6⟩ := (hRow.out _ hT.out) 6 _ rfl
        by_cases hjn : j < n
        · have hjnI : (j : Int) < (n : Int) := by omega
          go_wp2
          go_roundg k1
          case measure => omega
          case rel => exact ⟨j + 1, rfl, rfl, by omega, by omega, hT⟩
        · have hjnI : ¬ (j : Int) < (n : Int) := by omega
          clear hk
          go_wp2
          go_ret
          exact ⟨rfl, hT.out.b⟩
  · have hown := hNo.out 0 hcode.out (decide_eq_false (by rintro ⟨g0_, g1_, g2_, g3_⟩; exact absurd g0_ g0))
    have hb' := hb.out
    rw [hown] at hb'
    subst hb'
    clear hown hF hcode hNo hYes
    go_enter Try.func49, Try.ntmps49
    go_wp2
    go_loopg [4, 5] (n + 1) (fun kq v4 v5 wr => ∃ (j : Nat), v4 = .bool false ∧ v5 = .int .i64 (j : Int) ∧ j ≤ n ∧ n - j < kq ∧ Aside0 (Bx w wr TL))
    case atStart => exact ⟨0, rfl, rfl, Nat.zero_le _, by omega, hT⟩
    case round =>
      clear hT
      obtain ⟨j, rfl, rfl, hj, hk, hT⟩ := hrel
      obtain ⟨k1, rfl⟩ : ∃ m, gk = m + 1 := ⟨gk - 1, by omega⟩
      obtain ⟨y6, z6⟩ := (hRow.out _ hT.out) 6 _ rfl
      by_cases hjn : j < n
      · have hjnI : (j : Int) < (n : Int) := by omega
        go_wp2
        go_roundg k1
        case measure => omega
        case rel => exact ⟨j + 1, rfl, rfl, by omega, by omega, hT⟩
      · have hjnI : ¬ (j : Int) < (n : Int) := by omega
        clear hk
        go_wp2
        go_ret
        exact ⟨rfl, hT.out.b⟩
set_option maxHeartbeats 16000000 in
set_option maxRecDepth 1000000 in
theorem right_2 (d n c : Nat) (op key vs : ByteArray) (vk vn pn : Int) (kids : List Pol) (A : Option Addr) (w : World) (b : Bool) (hn : kids.length = n) (hkl : key.size ≤ 200) (hC : (kp 43 d).C w A n kids) (hF : Aside0 (∀ q cs W, q ∈ kids → (kp 43 d).K W q cs → Calls Try.prog 49 #[.agg cs.toArray] W fun e w' => e = .returned (.bool (fm d q)) ∧ Below W.heap.size W w')) (hb : fm (d + 1) (⟨op, key, vk, vn, vs, pn, kids⟩ : Pol) = b) (hop2 : op.toList = [101, 114, 114, 111, 114]) :
    Calls Try.prog 49 #[.agg #[.string op, .string key, .int .i64 vk, .int .i64 vn, .string vs, .int .u64 pn, .slice A n c]] w fun e w' => e = .returned (.bool b) ∧ Below w.heap.size w w' := by
  replace hkl := Aside0.mk hkl
  have hnm := Kd.C_max hC
  have hT1 := (Bx.start w).new [.string op, .string key, .int .i64 vk, .int .i64 vn, .string vs, .int .u64 pn, .slice A n c] 43
  have e1 := size_alloc w (.cells #[.string op, .string key, .int .i64 vk, .int .i64 vn, .string vs, .int .u64 pn, .slice A n c] 43)
  have hT := hT1.new [.int .i64 0, .int .i64 0, .string ⟨#[]⟩] 40
  rw [e1] at hT
  obtain ⟨TL, hTL⟩ : ∃ TL : List (Nat × List Value), [(w.heap.size + 1, [.int .i64 0, .int .i64 0, .string ⟨#[]⟩]), (w.heap.size, [.string op, .string key, .int .i64 vk, .int .i64 vn, .string vs, .int .u64 pn, .slice A n c])] = TL := ⟨_, rfl⟩
  rw [hTL] at hT
  replace hT := Aside0.mk hT
  have hRow := Aside0.mk (fun W (h : Bx w W TL) => h.row (g := w.heap.size) (cs := [.string op, .string key, .int .i64 vk, .int .i64 vn, .string vs, .int .u64 pn, .slice A n c]) (by rw [← hTL]; simp))
  clear hT1 e1 hTL
  replace hC := Aside0.mk hC
  have hNo := Aside0.mk (fun k (h1 : opc op.toList = k) (h2 : ownC (⟨op, key, vk, vn, vs, pn, kids⟩ : Pol) n k = false) => fm_no (d := d) (p := (⟨op, key, vk, vn, vs, pn, kids⟩ : Pol)) h1 (own_at hn h2))
  have hYes := Aside0.mk (fun k (h1 : opc op.toList = k) (h2 : ownC (⟨op, key, vk, vn, vs, pn, kids⟩ : Pol) n k = true) => (fm_yes (d := d) (p := (⟨op, key, vk, vn, vs, pn, kids⟩ : Pol)) h1 (own_at hn h2)).trans (allk_any d kids))
  replace hn := Aside0.mk hn
  replace hb := Aside0.mk hb
  have hcode := Aside0.mk (show opc op.toList = 0 by rw [hop2]; decide)
  by_cases g0 : key.toList = []
  · by_cases g1 : vk = 0 ∧ vn = 0 ∧ vs.toList = []
    · obtain ⟨rfl, rfl, gv1⟩ := g1
      by_cases g2 : pn = 0
      · subst g2
        by_cases g3 : n = 0
        · subst g3
          have hown := hYes.out 0 hcode.out (decide_eq_true ⟨g0, ⟨rfl, rfl, gv1⟩, rfl, rfl⟩)
          have hb' := hb.out
          rw [hown] at hb'
          subst hb'
          clear hown hcode hNo hYes
          go_enter Try.func49, Try.ntmps49
          go_wp2
          go_loopg [4, 5] (0 + 1) (fun kq v4 v5 wr => ∃ (j : Nat) (r : Bool), v4 = .bool r ∧ v5 = .int .i64 (j : Int) ∧ j ≤ 0 ∧ 0 - j < kq ∧ Aside0 (allk d (kids.take j) = r) ∧ Aside0 (Bx w wr TL))
          case atStart => exact ⟨0, true, rfl, rfl, Nat.zero_le _, by omega, ⟨rfl⟩, hT⟩
          case round =>
            clear hT
            obtain ⟨j, r, rfl, rfl, hj, hk, hA, hT⟩ := hrel
            obtain ⟨k1, rfl⟩ : ∃ m, gk = m + 1 := ⟨gk - 1, by omega⟩
            obtain ⟨y6, z6⟩ := (hRow.out _ hT.out) 6 _ rfl
            have hj0 : (0 : Int) ≤ (j : Int) := by omega
            obtain rfl : j = 0 := by omega
            have hjnI : ¬ (((0 : Nat) : Int) : Int) < ((0 : Nat) : Int) := by omega
            have hall : kids.take 0 = kids := List.take_of_length_le (by rw [hn.out]; omega)
            have hA2 := hA.out
            rw [hall] at hA2
            replace hA2 := Aside0.mk hA2
            clear hk hall hA
            go_wp2
            go_ret
            exact ⟨by rw [hA2.out]; rfl, hT.out.b⟩
        · have hown := hNo.out 0 hcode.out (decide_eq_false (by rintro ⟨g0_, g1_, g2_, g3_⟩; exact absurd g3_ g3))
          have hb' := hb.out
          rw [hown] at hb'
          subst hb'
          clear hown hF hcode hNo hYes
          have gI : ((n : Int) == 0) = false := by rw [beq_eq_false_iff_ne]; omega
          go_enter Try.func49, Try.ntmps49
          go_wp2
          go_loopg [4, 5] (n + 1) (fun kq v4 v5 wr => ∃ (j : Nat), v4 = .bool false ∧ v5 = .int .i64 (j : Int) ∧ j ≤ n ∧ n - j < kq ∧ Aside0 (Bx w wr TL))
          case atStart => exact ⟨0, rfl, rfl, Nat.zero_le _, by omega, hT⟩
          case round =>
            clear hT
            obtain ⟨j, rfl, rfl, hj, hk, hT⟩ := hrel
            obtain ⟨k1, rfl⟩ : ∃ m, gk = m + 1 := ⟨gk - 1, by omega⟩
            obtain ⟨y6, z6⟩ := (hRow.out _ hT.out) 6 _ rfl
            by_cases hjn : j < n
            · have hjnI : (j : Int) < (n : Int) := by omega
              go_wp2
              go_roundg k1
              case measure => omega
              case rel => exact ⟨j + 1, rfl, rfl, by omega, by omega, hT⟩
            · have hjnI : ¬ (j : Int) < (n : Int) := by omega
              clear hk
              go_wp2
              go_ret
              exact ⟨rfl, hT.out.b⟩
      · have hown := hNo.out 0 hcode.out (decide_eq_false (by rintro ⟨g0_, g1_, g2_, g3_⟩; exact absurd g2_ g2))
        have hb' := hb.out
        rw [hown] at hb'
        subst hb'
        clear hown hF hcode hNo hYes
        go_enter Try.func49, Try.ntmps49
        go_wp2
        go_loopg [4, 5] (n + 1) (fun kq v4 v5 wr => ∃ (j : Nat), v4 = .bool false ∧ v5 = .int .i64 (j : Int) ∧ j ≤ n ∧ n - j < kq ∧ Aside0 (Bx w wr TL))
        case atStart => exact ⟨0, rfl, rfl, Nat.zero_le _, by omega, hT⟩
        case round =>
          clear hT
          obtain ⟨j, rfl, rfl, hj, hk, hT⟩ := hrel
          obtain ⟨k1, rfl⟩ : ∃ m, gk = m + 1 := ⟨gk - 1, by omega⟩
          obtain ⟨y6, z6⟩ := (hRow.out _ hT.out) 6 _ rfl
          by_cases hjn : j < n
          · have hjnI : (j : Int) < (n : Int) := by omega
            go_wp2
            go_roundg k1
            case measure => omega
            case rel => exact ⟨j + 1, rfl, rfl, by omega, by omega, hT⟩
          · have hjnI : ¬ (j : Int) < (n : Int) := by omega
            clear hk
            go_wp2
            go_ret
            exact ⟨rfl, hT.out.b⟩
    · have hown := hNo.out 0 hcode.out (decide_eq_false (by rintro ⟨g0_, g1_, g2_, g3_⟩; exact absurd g1_ g1))
      have hb' := hb.out
      rw [hown] at hb'
      subst hb'
      clear hown hF hcode hNo hYes
      go_enter Try.func49, Try.ntmps49
      go_wp2
      go_loopg [4, 5] (n + 1) (fun kq v4 v5 wr => ∃ (j : Nat), v4 = .bool false ∧ v5 = .int .i64 (j : Int) ∧ j ≤ n ∧ n - j < kq ∧ Aside0 (Bx w wr TL))
      case atStart => exact ⟨0, rfl, rfl, Nat.zero_le _, by omega, hT⟩
      case round =>
        clear hT
        obtain ⟨j, rfl, rfl, hj, hk, hT⟩ := hrel
        obtain ⟨k1, rfl⟩ : ∃ m, gk = m + 1 := ⟨gk - 1, by omega⟩
        obtain ⟨y6, z6⟩ := (hRow.out _ hT.out) 6 _ rfl
        by_cases hjn : j < n
        · have hjnI : (j : Int) < (n : Int) := by omega
          go_wp2
          go_roundg k1
          case measure => omega
          case rel => exact ⟨j + 1, rfl, rfl, by omega, by omega, hT⟩
        · have hjnI : ¬ (j : Int) < (n : Int) := by omega
          clear hk
          go_wp2
          go_ret
          exact ⟨rfl, hT.out.b⟩
  · have hown := hNo.out 0 hcode.out (decide_eq_false (by rintro ⟨g0_, g1_, g2_, g3_⟩; exact absurd g0_ g0))
    have hb' := hb.out
    rw [hown] at hb'
    subst hb'
    clear hown hF hcode hNo hYes
    go_enter Try.func49, Try.ntmps49
    go_wp2
    go_loopg [4, 5] (n + 1) (fun kq v4 v5 wr => ∃ (j : Nat), v4 = .bool false ∧ v5 = .int .i64 (j : Int) ∧ j ≤ n ∧ n - j < kq ∧ Aside0 (Bx w wr TL))
    case atStart => exact ⟨0, rfl, rfl, Nat.zero_le _, by omega, hT⟩
    case round =>
      clear hT
      obtain ⟨j, rfl, rfl, hj, hk, hT⟩ := hrel
      obtain ⟨k1, rfl⟩ : ∃ m, gk = m + 1 := ⟨gk - 1, by omega⟩
      obtain ⟨y6, z6⟩ := (hRow.out _ hT.out) 6 _ rfl
      by_cases hjn : j < n
      · have hjnI : (j : Int) < (n : Int) := by omega
        go_wp2
        go_roundg k1
        case measure => omega
        case rel => exact ⟨j + 1, rfl, rfl, by omega, by omega, hT⟩
      · have hjnI : ¬ (j : Int) < (n : Int) := by omega
        clear hk
        go_wp2
        go_ret
        exact ⟨rfl, hT.out.b⟩
set_option maxHeartbeats 16000000 in
set_option maxRecDepth 1000000 in
theorem right_3 (d n c : Nat) (op key vs : ByteArray) (vk vn pn : Int) (kids : List Pol) (A : Option Addr) (w : World) (b : Bool) (hn : kids.length = n) (hkl : key.size ≤ 200) (hC : (kp 43 d).C w A n kids) (hF : Aside0 (∀ q cs W, q ∈ kids → (kp 43 d).K W q cs → Calls Try.prog 49 #[.agg cs.toArray] W fun e w' => e = .returned (.bool (fm d q)) ∧ Below W.heap.size W w')) (hb : fm (d + 1) (⟨op, key, vk, vn, vs, pn, kids⟩ : Pol) = b) (hop3 : op.toList = [115, 108, 111, 119]) :
    Calls Try.prog 49 #[.agg #[.string op, .string key, .int .i64 vk, .int .i64 vn, .string vs, .int .u64 pn, .slice A n c]] w fun e w' => e = .returned (.bool b) ∧ Below w.heap.size w w' := by
  replace hkl := Aside0.mk hkl
  have hnm := Kd.C_max hC
  have hT1 := (Bx.start w).new [.string op, .string key, .int .i64 vk, .int .i64 vn, .string vs, .int .u64 pn, .slice A n c] 43
  have e1 := size_alloc w (.cells #[.string op, .string key, .int .i64 vk, .int .i64 vn, .string vs, .int .u64 pn, .slice A n c] 43)
  have hT := hT1.new [.int .i64 0, .int .i64 0, .string ⟨#[]⟩] 40
  rw [e1] at hT
  obtain ⟨TL, hTL⟩ : ∃ TL : List (Nat × List Value), [(w.heap.size + 1, [.int .i64 0, .int .i64 0, .string ⟨#[]⟩]), (w.heap.size, [.string op, .string key, .int .i64 vk, .int .i64 vn, .string vs, .int .u64 pn, .slice A n c])] = TL := ⟨_, rfl⟩
  rw [hTL] at hT
  replace hT := Aside0.mk hT
  have hRow := Aside0.mk (fun W (h : Bx w W TL) => h.row (g := w.heap.size) (cs := [.string op, .string key, .int .i64 vk, .int .i64 vn, .string vs, .int .u64 pn, .slice A n c]) (by rw [← hTL]; simp))
  clear hT1 e1 hTL
  replace hC := Aside0.mk hC
  have hNo := Aside0.mk (fun k (h1 : opc op.toList = k) (h2 : ownC (⟨op, key, vk, vn, vs, pn, kids⟩ : Pol) n k = false) => fm_no (d := d) (p := (⟨op, key, vk, vn, vs, pn, kids⟩ : Pol)) h1 (own_at hn h2))
  have hYes := Aside0.mk (fun k (h1 : opc op.toList = k) (h2 : ownC (⟨op, key, vk, vn, vs, pn, kids⟩ : Pol) n k = true) => (fm_yes (d := d) (p := (⟨op, key, vk, vn, vs, pn, kids⟩ : Pol)) h1 (own_at hn h2)).trans (allk_any d kids))
  replace hn := Aside0.mk hn
  replace hb := Aside0.mk hb
  have hcode := Aside0.mk (show opc op.toList = 3 by rw [hop3]; decide)
  by_cases g0 : key.toList = []
  · by_cases g1 : vk = 0 ∧ vn = 0 ∧ vs.toList = []
    · obtain ⟨rfl, rfl, gv1⟩ := g1
      by_cases g2 : n = 0
      · subst g2
        have hown := hYes.out 3 hcode.out (decide_eq_true ⟨g0, ⟨rfl, rfl, gv1⟩, rfl⟩)
        have hb' := hb.out
        rw [hown] at hb'
        subst hb'
        clear hown hcode hNo hYes
        go_enter Try.func49, Try.ntmps49
        go_wp2
        go_loopg [4, 5] (0 + 1) (fun kq v4 v5 wr => ∃ (j : Nat) (r : Bool), v4 = .bool r ∧ v5 = .int .i64 (j : Int) ∧ j ≤ 0 ∧ 0 - j < kq ∧ Aside0 (allk d (kids.take j) = r) ∧ Aside0 (Bx w wr TL))
        case atStart => exact ⟨0, true, rfl, rfl, Nat.zero_le _, by omega, ⟨rfl⟩, hT⟩
        case round =>
          clear hT
          obtain ⟨j, r, rfl, rfl, hj, hk, hA, hT⟩ := hrel
          obtain ⟨k1, rfl⟩ : ∃ m, gk = m + 1 := ⟨gk - 1, by omega⟩
          obtain ⟨y6, z6⟩ := (hRow.out _ hT.out) 6 _ rfl
          have hj0 : (0 : Int) ≤ (j : Int) := by omega
          obtain rfl : j = 0 := by omega
          have hjnI : ¬ (((0 : Nat) : Int) : Int) < ((0 : Nat) : Int) := by omega
          have hall : kids.take 0 = kids := List.take_of_length_le (by rw [hn.out]; omega)
          have hA2 := hA.out
          rw [hall] at hA2
          replace hA2 := Aside0.mk hA2
          clear hk hall hA
          go_wp2
          go_ret
          exact ⟨by rw [hA2.out]; rfl, hT.out.b⟩
      · have hown := hNo.out 3 hcode.out (decide_eq_false (by rintro ⟨g0_, g1_, g2_⟩; exact absurd g2_ g2))
        have hb' := hb.out
        rw [hown] at hb'
        subst hb'
        clear hown hF hcode hNo hYes
        have gI : ((n : Int) == 0) = false := by rw [beq_eq_false_iff_ne]; omega
        go_enter Try.func49, Try.ntmps49
        go_wp2
        go_loopg [4, 5] (n + 1) (fun kq v4 v5 wr => ∃ (j : Nat), v4 = .bool false ∧ v5 = .int .i64 (j : Int) ∧ j ≤ n ∧ n - j < kq ∧ Aside0 (Bx w wr TL))
        case atStart => exact ⟨0, rfl, rfl, Nat.zero_le _, by omega, hT⟩
        case round =>
          clear hT
          obtain ⟨j, rfl, rfl, hj, hk, hT⟩ := hrel
          obtain ⟨k1, rfl⟩ : ∃ m, gk = m + 1 := ⟨gk - 1, by omega⟩
          obtain ⟨y6, z6⟩ := (hRow.out _ hT.out) 6 _ rfl
          by_cases hjn : j < n
          · have hjnI : (j : Int) < (n : Int) := by omega
            go_wp2
            go_roundg k1
            case measure => omega
            case rel => exact ⟨j + 1, rfl, rfl, by omega, by omega, hT⟩
          · have hjnI : ¬ (j : Int) < (n : Int) := by omega
            clear hk
            go_wp2
            go_ret
            exact ⟨rfl, hT.out.b⟩
    · have hown := hNo.out 3 hcode.out (decide_eq_false (by rintro ⟨g0_, g1_, g2_⟩; exact absurd g1_ g1))
      have hb' := hb.out
      rw [hown] at hb'
      subst hb'
      clear hown hF hcode hNo hYes
      go_enter Try.func49, Try.ntmps49
      go_wp2
      go_loopg [4, 5] (n + 1) (fun kq v4 v5 wr => ∃ (j : Nat), v4 = .bool false ∧ v5 = .int .i64 (j : Int) ∧ j ≤ n ∧ n - j < kq ∧ Aside0 (Bx w wr TL))
      case atStart => exact ⟨0, rfl, rfl, Nat.zero_le _, by omega, hT⟩
      case round =>
        clear hT
        obtain ⟨j, rfl, rfl, hj, hk, hT⟩ := hrel
        obtain ⟨k1, rfl⟩ : ∃ m, gk = m + 1 := ⟨gk - 1, by omega⟩
        obtain ⟨y6, z6⟩ := (hRow.out _ hT.out) 6 _ rfl
        by_cases hjn : j < n
        · have hjnI : (j : Int) < (n : Int) := by omega
          go_wp2
          go_roundg k1
          case measure => omega
          case rel => exact ⟨j + 1, rfl, rfl, by omega, by omega, hT⟩
        · have hjnI : ¬ (j : Int) < (n : Int) := by omega
          clear hk
          go_wp2
          go_ret
          exact ⟨rfl, hT.out.b⟩
  · have hown := hNo.out 3 hcode.out (decide_eq_false (by rintro ⟨g0_, g1_, g2_⟩; exact absurd g0_ g0))
    have hb' := hb.out
    rw [hown] at hb'
    subst hb'
    clear hown hF hcode hNo hYes
    go_enter Try.func49, Try.ntmps49
    go_wp2
    go_loopg [4, 5] (n + 1) (fun kq v4 v5 wr => ∃ (j : Nat), v4 = .bool false ∧ v5 = .int .i64 (j : Int) ∧ j ≤ n ∧ n - j < kq ∧ Aside0 (Bx w wr TL))
    case atStart => exact ⟨0, rfl, rfl, Nat.zero_le _, by omega, hT⟩
    case round =>
      clear hT
      obtain ⟨j, rfl, rfl, hj, hk, hT⟩ := hrel
      obtain ⟨k1, rfl⟩ : ∃ m, gk = m + 1 := ⟨gk - 1, by omega⟩
      obtain ⟨y6, z6⟩ := (hRow.out _ hT.out) 6 _ rfl
      by_cases hjn : j < n
      · have hjnI : (j : Int) < (n : Int) := by omega
        go_wp2
        go_roundg k1
        case measure => omega
        case rel => exact ⟨j + 1, rfl, rfl, by omega, by omega, hT⟩
      · have hjnI : ¬ (j : Int) < (n : Int) := by omega
        clear hk
        go_wp2
        go_ret
        exact ⟨rfl, hT.out.b⟩
set_option maxHeartbeats 16000000 in
set_option maxRecDepth 1000000 in
theorem right_4 (d n c : Nat) (op key vs : ByteArray) (vk vn pn : Int) (kids : List Pol) (A : Option Addr) (w : World) (b : Bool) (hn : kids.length = n) (hkl : key.size ≤ 200) (hC : (kp 43 d).C w A n kids) (hF : Aside0 (∀ q cs W, q ∈ kids → (kp 43 d).K W q cs → Calls Try.prog 49 #[.agg cs.toArray] W fun e w' => e = .returned (.bool (fm d q)) ∧ Below W.heap.size W w')) (hb : fm (d + 1) (⟨op, key, vk, vn, vs, pn, kids⟩ : Pol) = b) (hop4 : op.toList = [115, 104, 97, 114, 101]) :
    Calls Try.prog 49 #[.agg #[.string op, .string key, .int .i64 vk, .int .i64 vn, .string vs, .int .u64 pn, .slice A n c]] w fun e w' => e = .returned (.bool b) ∧ Below w.heap.size w w' := by
  replace hkl := Aside0.mk hkl
  have hnm := Kd.C_max hC
  have hT1 := (Bx.start w).new [.string op, .string key, .int .i64 vk, .int .i64 vn, .string vs, .int .u64 pn, .slice A n c] 43
  have e1 := size_alloc w (.cells #[.string op, .string key, .int .i64 vk, .int .i64 vn, .string vs, .int .u64 pn, .slice A n c] 43)
  have hT := hT1.new [.int .i64 0, .int .i64 0, .string ⟨#[]⟩] 40
  rw [e1] at hT
  obtain ⟨TL, hTL⟩ : ∃ TL : List (Nat × List Value), [(w.heap.size + 1, [.int .i64 0, .int .i64 0, .string ⟨#[]⟩]), (w.heap.size, [.string op, .string key, .int .i64 vk, .int .i64 vn, .string vs, .int .u64 pn, .slice A n c])] = TL := ⟨_, rfl⟩
  rw [hTL] at hT
  replace hT := Aside0.mk hT
  have hRow := Aside0.mk (fun W (h : Bx w W TL) => h.row (g := w.heap.size) (cs := [.string op, .string key, .int .i64 vk, .int .i64 vn, .string vs, .int .u64 pn, .slice A n c]) (by rw [← hTL]; simp))
  clear hT1 e1 hTL
  replace hC := Aside0.mk hC
  have hNo := Aside0.mk (fun k (h1 : opc op.toList = k) (h2 : ownC (⟨op, key, vk, vn, vs, pn, kids⟩ : Pol) n k = false) => fm_no (d := d) (p := (⟨op, key, vk, vn, vs, pn, kids⟩ : Pol)) h1 (own_at hn h2))
  have hYes := Aside0.mk (fun k (h1 : opc op.toList = k) (h2 : ownC (⟨op, key, vk, vn, vs, pn, kids⟩ : Pol) n k = true) => (fm_yes (d := d) (p := (⟨op, key, vk, vn, vs, pn, kids⟩ : Pol)) h1 (own_at hn h2)).trans (allk_any d kids))
  replace hn := Aside0.mk hn
  replace hb := Aside0.mk hb
  have hcode := Aside0.mk (show opc op.toList = 4 by rw [hop4]; decide)
  by_cases g0 : key.toList = []
  · by_cases g1 : vk = 0 ∧ vn = 0 ∧ vs.toList = []
    · obtain ⟨rfl, rfl, gv1⟩ := g1
      by_cases g2 : n = 0
      · subst g2
        by_cases g3 : pn ≤ 1000
        · have hown := hYes.out 4 hcode.out (decide_eq_true ⟨g3, g0, ⟨rfl, rfl, gv1⟩, rfl⟩)
          have hb' := hb.out
          rw [hown] at hb'
          subst hb'
          clear hown hcode hNo hYes
          go_enter Try.func49, Try.ntmps49
          go_wp2
          go_loopg [4, 5] (0 + 1) (fun kq v4 v5 wr => ∃ (j : Nat) (r : Bool), v4 = .bool r ∧ v5 = .int .i64 (j : Int) ∧ j ≤ 0 ∧ 0 - j < kq ∧ Aside0 (allk d (kids.take j) = r) ∧ Aside0 (Bx w wr TL))
          case atStart => exact ⟨0, true, rfl, rfl, Nat.zero_le _, by omega, ⟨rfl⟩, hT⟩
          case round =>
            clear hT
            obtain ⟨j, r, rfl, rfl, hj, hk, hA, hT⟩ := hrel
            obtain ⟨k1, rfl⟩ : ∃ m, gk = m + 1 := ⟨gk - 1, by omega⟩
            obtain ⟨y6, z6⟩ := (hRow.out _ hT.out) 6 _ rfl
            have hj0 : (0 : Int) ≤ (j : Int) := by omega
            obtain rfl : j = 0 := by omega
            have hjnI : ¬ (((0 : Nat) : Int) : Int) < ((0 : Nat) : Int) := by omega
            have hall : kids.take 0 = kids := List.take_of_length_le (by rw [hn.out]; omega)
            have hA2 := hA.out
            rw [hall] at hA2
            replace hA2 := Aside0.mk hA2
            clear hk hall hA
            go_wp2
            go_ret
            exact ⟨by rw [hA2.out]; rfl, hT.out.b⟩
        · have hown := hNo.out 4 hcode.out (decide_eq_false (by rintro ⟨g3_, g0_, g1_, g2_⟩; exact absurd g3_ g3))
          have hb' := hb.out
          rw [hown] at hb'
          subst hb'
          clear hown hF hcode hNo hYes
          go_enter Try.func49, Try.ntmps49
          go_wp2
          go_loopg [4, 5] (0 + 1) (fun kq v4 v5 wr => ∃ (j : Nat), v4 = .bool false ∧ v5 = .int .i64 (j : Int) ∧ j ≤ 0 ∧ 0 - j < kq ∧ Aside0 (Bx w wr TL))
          case atStart => exact ⟨0, rfl, rfl, Nat.zero_le _, by omega, hT⟩
          case round =>
            clear hT
            obtain ⟨j, rfl, rfl, hj, hk, hT⟩ := hrel
            obtain ⟨k1, rfl⟩ : ∃ m, gk = m + 1 := ⟨gk - 1, by omega⟩
            obtain ⟨y6, z6⟩ := (hRow.out _ hT.out) 6 _ rfl
            obtain rfl : j = 0 := by omega
            have hjnI : ¬ (((0 : Nat) : Int) : Int) < ((0 : Nat) : Int) := by omega
            clear hk
            go_wp2
            go_ret
            exact ⟨rfl, hT.out.b⟩
      · have hown := hNo.out 4 hcode.out (decide_eq_false (by rintro ⟨g3_, g0_, g1_, g2_⟩; exact absurd g2_ g2))
        have hb' := hb.out
        rw [hown] at hb'
        subst hb'
        clear hown hF hcode hNo hYes
        have gI : ((n : Int) == 0) = false := by rw [beq_eq_false_iff_ne]; omega
        go_enter Try.func49, Try.ntmps49
        go_wp2
        go_loopg [4, 5] (n + 1) (fun kq v4 v5 wr => ∃ (j : Nat), v4 = .bool false ∧ v5 = .int .i64 (j : Int) ∧ j ≤ n ∧ n - j < kq ∧ Aside0 (Bx w wr TL))
        case atStart => exact ⟨0, rfl, rfl, Nat.zero_le _, by omega, hT⟩
        case round =>
          clear hT
          obtain ⟨j, rfl, rfl, hj, hk, hT⟩ := hrel
          obtain ⟨k1, rfl⟩ : ∃ m, gk = m + 1 := ⟨gk - 1, by omega⟩
          obtain ⟨y6, z6⟩ := (hRow.out _ hT.out) 6 _ rfl
          by_cases hjn : j < n
          · have hjnI : (j : Int) < (n : Int) := by omega
            go_wp2
            go_roundg k1
            case measure => omega
            case rel => exact ⟨j + 1, rfl, rfl, by omega, by omega, hT⟩
          · have hjnI : ¬ (j : Int) < (n : Int) := by omega
            clear hk
            go_wp2
            go_ret
            exact ⟨rfl, hT.out.b⟩
    · have hown := hNo.out 4 hcode.out (decide_eq_false (by rintro ⟨g3_, g0_, g1_, g2_⟩; exact absurd g1_ g1))
      have hb' := hb.out
      rw [hown] at hb'
      subst hb'
      clear hown hF hcode hNo hYes
      go_enter Try.func49, Try.ntmps49
      go_wp2
      go_loopg [4, 5] (n + 1) (fun kq v4 v5 wr => ∃ (j : Nat), v4 = .bool false ∧ v5 = .int .i64 (j : Int) ∧ j ≤ n ∧ n - j < kq ∧ Aside0 (Bx w wr TL))
      case atStart => exact ⟨0, rfl, rfl, Nat.zero_le _, by omega, hT⟩
      case round =>
        clear hT
        obtain ⟨j, rfl, rfl, hj, hk, hT⟩ := hrel
        obtain ⟨k1, rfl⟩ : ∃ m, gk = m + 1 := ⟨gk - 1, by omega⟩
        obtain ⟨y6, z6⟩ := (hRow.out _ hT.out) 6 _ rfl
        by_cases hjn : j < n
        · have hjnI : (j : Int) < (n : Int) := by omega
          go_wp2
          go_roundg k1
          case measure => omega
          case rel => exact ⟨j + 1, rfl, rfl, by omega, by omega, hT⟩
        · have hjnI : ¬ (j : Int) < (n : Int) := by omega
          clear hk
          go_wp2
          go_ret
          exact ⟨rfl, hT.out.b⟩
  · have hown := hNo.out 4 hcode.out (decide_eq_false (by rintro ⟨g3_, g0_, g1_, g2_⟩; exact absurd g0_ g0))
    have hb' := hb.out
    rw [hown] at hb'
    subst hb'
    clear hown hF hcode hNo hYes
    go_enter Try.func49, Try.ntmps49
    go_wp2
    go_loopg [4, 5] (n + 1) (fun kq v4 v5 wr => ∃ (j : Nat), v4 = .bool false ∧ v5 = .int .i64 (j : Int) ∧ j ≤ n ∧ n - j < kq ∧ Aside0 (Bx w wr TL))
    case atStart => exact ⟨0, rfl, rfl, Nat.zero_le _, by omega, hT⟩
    case round =>
      clear hT
      obtain ⟨j, rfl, rfl, hj, hk, hT⟩ := hrel
      obtain ⟨k1, rfl⟩ : ∃ m, gk = m + 1 := ⟨gk - 1, by omega⟩
      obtain ⟨y6, z6⟩ := (hRow.out _ hT.out) 6 _ rfl
      by_cases hjn : j < n
      · have hjnI : (j : Int) < (n : Int) := by omega
        go_wp2
        go_roundg k1
        case measure => omega
        case rel => exact ⟨j + 1, rfl, rfl, by omega, by omega, hT⟩
      · have hjnI : ¬ (j : Int) < (n : Int) := by omega
        clear hk
        go_wp2
        go_ret
        exact ⟨rfl, hT.out.b⟩
set_option maxHeartbeats 16000000 in
set_option maxRecDepth 1000000 in
theorem right_5 (d n c : Nat) (op key vs : ByteArray) (vk vn pn : Int) (kids : List Pol) (A : Option Addr) (w : World) (b : Bool) (hn : kids.length = n) (hkl : key.size ≤ 200) (hC : (kp 43 d).C w A n kids) (hF : Aside0 (∀ q cs W, q ∈ kids → (kp 43 d).K W q cs → Calls Try.prog 49 #[.agg cs.toArray] W fun e w' => e = .returned (.bool (fm d q)) ∧ Below W.heap.size W w')) (hb : fm (d + 1) (⟨op, key, vk, vn, vs, pn, kids⟩ : Pol) = b) (hop5 : op.toList = [97, 116, 116, 114]) :
    Calls Try.prog 49 #[.agg #[.string op, .string key, .int .i64 vk, .int .i64 vn, .string vs, .int .u64 pn, .slice A n c]] w fun e w' => e = .returned (.bool b) ∧ Below w.heap.size w w' := by
  replace hkl := Aside0.mk hkl
  have hnm := Kd.C_max hC
  have hT1 := (Bx.start w).new [.string op, .string key, .int .i64 vk, .int .i64 vn, .string vs, .int .u64 pn, .slice A n c] 43
  have e1 := size_alloc w (.cells #[.string op, .string key, .int .i64 vk, .int .i64 vn, .string vs, .int .u64 pn, .slice A n c] 43)
  have hT := hT1.new [.int .i64 0, .int .i64 0, .string ⟨#[]⟩] 40
  rw [e1] at hT
  obtain ⟨TL, hTL⟩ : ∃ TL : List (Nat × List Value), [(w.heap.size + 1, [.int .i64 0, .int .i64 0, .string ⟨#[]⟩]), (w.heap.size, [.string op, .string key, .int .i64 vk, .int .i64 vn, .string vs, .int .u64 pn, .slice A n c])] = TL := ⟨_, rfl⟩
  rw [hTL] at hT
  replace hT := Aside0.mk hT
  have hRow := Aside0.mk (fun W (h : Bx w W TL) => h.row (g := w.heap.size) (cs := [.string op, .string key, .int .i64 vk, .int .i64 vn, .string vs, .int .u64 pn, .slice A n c]) (by rw [← hTL]; simp))
  clear hT1 e1 hTL
  replace hC := Aside0.mk hC
  have hNo := Aside0.mk (fun k (h1 : opc op.toList = k) (h2 : ownC (⟨op, key, vk, vn, vs, pn, kids⟩ : Pol) n k = false) => fm_no (d := d) (p := (⟨op, key, vk, vn, vs, pn, kids⟩ : Pol)) h1 (own_at hn h2))
  have hYes := Aside0.mk (fun k (h1 : opc op.toList = k) (h2 : ownC (⟨op, key, vk, vn, vs, pn, kids⟩ : Pol) n k = true) => (fm_yes (d := d) (p := (⟨op, key, vk, vn, vs, pn, kids⟩ : Pol)) h1 (own_at hn h2)).trans (allk_any d kids))
  replace hn := Aside0.mk hn
  replace hb := Aside0.mk hb
  have hcode := Aside0.mk (show opc op.toList = 5 by rw [hop5]; decide)
  cases g0 : keyok key with
  | false =>
    have hown := hNo.out 5 hcode.out (decide_eq_false (by rintro ⟨g0_, g1_, g2_, g3_⟩; rw [g0] at g0_; cases g0_))
    have hb' := hb.out
    rw [hown] at hb'
    subst hb'
    replace g0 := Aside0.mk g0
    clear hown hF hcode hNo hYes
    go_enter Try.func49, Try.ntmps49
    go_wp2_with (go_at_call 59; refine (rkey_w key _ false hkl.out g0.out).mono ?_)
    rintro e w1 ⟨rfl, hb1⟩
    replace hT := Aside0.mk (hT.out.keep hb1)
    clear hb1
    obtain ⟨s5, _⟩ := (hRow.out _ hT.out) 5 _ rfl
    obtain ⟨s6, _⟩ := (hRow.out _ hT.out) 6 _ rfl
    go_wp2
    clear s5 s6
    go_loopg [4, 5] (n + 1) (fun kq v4 v5 wr => ∃ (j : Nat), v4 = .bool false ∧ v5 = .int .i64 (j : Int) ∧ j ≤ n ∧ n - j < kq ∧ Aside0 (Bx w wr TL))
    case atStart => exact ⟨0, rfl, rfl, Nat.zero_le _, by omega, hT⟩
    case round =>
      clear hT
      obtain ⟨j, rfl, rfl, hj, hk, hT⟩ := hrel
      obtain ⟨k1, rfl⟩ : ∃ m, gk = m + 1 := ⟨gk - 1, by omega⟩
      obtain ⟨y6, z6⟩ := (hRow.out _ hT.out) 6 _ rfl
      by_cases hjn : j < n
      · have hjnI : (j : Int) < (n : Int) := by omega
        go_wp2
        go_roundg k1
        case measure => omega
        case rel => exact ⟨j + 1, rfl, rfl, by omega, by omega, hT⟩
      · have hjnI : ¬ (j : Int) < (n : Int) := by omega
        clear hk
        go_wp2
        go_ret
        exact ⟨rfl, hT.out.b⟩
  | true =>
  replace g0 := Aside0.mk g0
  cases g1 : vok vk vn vs with
  | false =>
    have hown := hNo.out 5 hcode.out (decide_eq_false (by rintro ⟨g0_, g1_, g2_, g3_⟩; rw [g1] at g1_; cases g1_))
    have hb' := hb.out
    rw [hown] at hb'
    subst hb'
    replace g1 := Aside0.mk g1
    clear hown hF hcode hNo hYes
    go_enter Try.func49, Try.ntmps49
    go_wp2_with (go_at_call 59; refine (rkey_w key _ true hkl.out g0.out).mono ?_)
    rintro e w1 ⟨rfl, hb1⟩
    replace hT := Aside0.mk (hT.out.keep hb1)
    clear hb1
    go_wp2_with (refine wpList_load_at (by rfl) 40 _ rfl w.heap.size 2 rfl [.int .i64 vk, .int .i64 vn, .string vs] _ (row_mid (hRow.out _ hT.out) 2 3) Try.underlying40 rfl (by kernel_rfl) ?_)
    go_wp2_with (go_at_call 60; refine (rvok_w vk vn vs _ false g1.out).mono ?_)
    rintro e w2 ⟨rfl, hb2⟩
    replace hT := Aside0.mk (hT.out.keep hb2)
    clear hb2
    obtain ⟨s5, _⟩ := (hRow.out _ hT.out) 5 _ rfl
    obtain ⟨s6, _⟩ := (hRow.out _ hT.out) 6 _ rfl
    go_wp2
    clear s5 s6
    go_loopg [4, 5] (n + 1) (fun kq v4 v5 wr => ∃ (j : Nat), v4 = .bool false ∧ v5 = .int .i64 (j : Int) ∧ j ≤ n ∧ n - j < kq ∧ Aside0 (Bx w wr TL))
    case atStart => exact ⟨0, rfl, rfl, Nat.zero_le _, by omega, hT⟩
    case round =>
      clear hT
      obtain ⟨j, rfl, rfl, hj, hk, hT⟩ := hrel
      obtain ⟨k1, rfl⟩ : ∃ m, gk = m + 1 := ⟨gk - 1, by omega⟩
      obtain ⟨y6, z6⟩ := (hRow.out _ hT.out) 6 _ rfl
      by_cases hjn : j < n
      · have hjnI : (j : Int) < (n : Int) := by omega
        go_wp2
        go_roundg k1
        case measure => omega
        case rel => exact ⟨j + 1, rfl, rfl, by omega, by omega, hT⟩
      · have hjnI : ¬ (j : Int) < (n : Int) := by omega
        clear hk
        go_wp2
        go_ret
        exact ⟨rfl, hT.out.b⟩
  | true =>
  replace g1 := Aside0.mk g1
  by_cases g2 : pn = 0
  · subst g2
    by_cases g3 : n = 0
    · subst g3
      have hown := hYes.out 5 hcode.out (decide_eq_true ⟨g0.out, g1.out, rfl, rfl⟩)
      have hb' := hb.out
      rw [hown] at hb'
      subst hb'
      clear hown hcode hNo hYes
      go_enter Try.func49, Try.ntmps49
      go_wp2_with (go_at_call 59; refine (rkey_w key _ true hkl.out g0.out).mono ?_)
      rintro e w1 ⟨rfl, hb1⟩
      replace hT := Aside0.mk (hT.out.keep hb1)
      clear hb1
      go_wp2_with (refine wpList_load_at (by rfl) 40 _ rfl w.heap.size 2 rfl [.int .i64 vk, .int .i64 vn, .string vs] _ (row_mid (hRow.out _ hT.out) 2 3) Try.underlying40 rfl (by kernel_rfl) ?_)
      go_wp2_with (go_at_call 60; refine (rvok_w vk vn vs _ true g1.out).mono ?_)
      rintro e w2 ⟨rfl, hb2⟩
      replace hT := Aside0.mk (hT.out.keep hb2)
      clear hb2
      obtain ⟨s5, _⟩ := (hRow.out _ hT.out) 5 _ rfl
      obtain ⟨s6, _⟩ := (hRow.out _ hT.out) 6 _ rfl
      go_wp2
      clear s5 s6
      go_loopg [4, 5] (0 + 1) (fun kq v4 v5 wr => ∃ (j : Nat) (r : Bool), v4 = .bool r ∧ v5 = .int .i64 (j : Int) ∧ j ≤ 0 ∧ 0 - j < kq ∧ Aside0 (allk d (kids.take j) = r) ∧ Aside0 (Bx w wr TL))
      case atStart => exact ⟨0, true, rfl, rfl, Nat.zero_le _, by omega, ⟨rfl⟩, hT⟩
      case round =>
        clear hT
        obtain ⟨j, r, rfl, rfl, hj, hk, hA, hT⟩ := hrel
        obtain ⟨k1, rfl⟩ : ∃ m, gk = m + 1 := ⟨gk - 1, by omega⟩
        obtain ⟨y6, z6⟩ := (hRow.out _ hT.out) 6 _ rfl
        have hj0 : (0 : Int) ≤ (j : Int) := by omega
        obtain rfl : j = 0 := by omega
        have hjnI : ¬ (((0 : Nat) : Int) : Int) < ((0 : Nat) : Int) := by omega
        have hall : kids.take 0 = kids := List.take_of_length_le (by rw [hn.out]; omega)
        have hA2 := hA.out
        rw [hall] at hA2
        replace hA2 := Aside0.mk hA2
        clear hk hall hA
        go_wp2
        go_ret
        exact ⟨by rw [hA2.out]; rfl, hT.out.b⟩
    · have hown := hNo.out 5 hcode.out (decide_eq_false (by rintro ⟨g0_, g1_, g2_, g3_⟩; exact absurd g3_ g3))
      have hb' := hb.out
      rw [hown] at hb'
      subst hb'
      clear hown hF hcode hNo hYes
      have gI : ((n : Int) == 0) = false := by rw [beq_eq_false_iff_ne]; omega
      go_enter Try.func49, Try.ntmps49
      go_wp2_with (go_at_call 59; refine (rkey_w key _ true hkl.out g0.out).mono ?_)
      rintro e w1 ⟨rfl, hb1⟩
      replace hT := Aside0.mk (hT.out.keep hb1)
      clear hb1
      go_wp2_with (refine wpList_load_at (by rfl) 40 _ rfl w.heap.size 2 rfl [.int .i64 vk, .int .i64 vn, .string vs] _ (row_mid (hRow.out _ hT.out) 2 3) Try.underlying40 rfl (by kernel_rfl) ?_)
      go_wp2_with (go_at_call 60; refine (rvok_w vk vn vs _ true g1.out).mono ?_)
      rintro e w2 ⟨rfl, hb2⟩
      replace hT := Aside0.mk (hT.out.keep hb2)
      clear hb2
      obtain ⟨s5, _⟩ := (hRow.out _ hT.out) 5 _ rfl
      obtain ⟨s6, _⟩ := (hRow.out _ hT.out) 6 _ rfl
      go_wp2
      clear s5 s6
      go_loopg [4, 5] (n + 1) (fun kq v4 v5 wr => ∃ (j : Nat), v4 = .bool false ∧ v5 = .int .i64 (j : Int) ∧ j ≤ n ∧ n - j < kq ∧ Aside0 (Bx w wr TL))
      case atStart => exact ⟨0, rfl, rfl, Nat.zero_le _, by omega, hT⟩
      case round =>
        clear hT
        obtain ⟨j, rfl, rfl, hj, hk, hT⟩ := hrel
        obtain ⟨k1, rfl⟩ : ∃ m, gk = m + 1 := ⟨gk - 1, by omega⟩
        obtain ⟨y6, z6⟩ := (hRow.out _ hT.out) 6 _ rfl
        by_cases hjn : j < n
        · have hjnI : (j : Int) < (n : Int) := by omega
          go_wp2
          go_roundg k1
          case measure => omega
          case rel => exact ⟨j + 1, rfl, rfl, by omega, by omega, hT⟩
        · have hjnI : ¬ (j : Int) < (n : Int) := by omega
          clear hk
          go_wp2
          go_ret
          exact ⟨rfl, hT.out.b⟩
  · have hown := hNo.out 5 hcode.out (decide_eq_false (by rintro ⟨g0_, g1_, g2_, g3_⟩; exact absurd g2_ g2))
    have hb' := hb.out
    rw [hown] at hb'
    subst hb'
    clear hown hF hcode hNo hYes
    go_enter Try.func49, Try.ntmps49
    go_wp2_with (go_at_call 59; refine (rkey_w key _ true hkl.out g0.out).mono ?_)
    rintro e w1 ⟨rfl, hb1⟩
    replace hT := Aside0.mk (hT.out.keep hb1)
    clear hb1
    go_wp2_with (refine wpList_load_at (by rfl) 40 _ rfl w.heap.size 2 rfl [.int .i64 vk, .int .i64 vn, .string vs] _ (row_mid (hRow.out _ hT.out) 2 3) Try.underlying40 rfl (by kernel_rfl) ?_)
    go_wp2_with (go_at_call 60; refine (rvok_w vk vn vs _ true g1.out).mono ?_)
    rintro e w2 ⟨rfl, hb2⟩
    replace hT := Aside0.mk (hT.out.keep hb2)
    clear hb2
    obtain ⟨s5, _⟩ := (hRow.out _ hT.out) 5 _ rfl
    obtain ⟨s6, _⟩ := (hRow.out _ hT.out) 6 _ rfl
    go_wp2
    clear s5 s6
    go_loopg [4, 5] (n + 1) (fun kq v4 v5 wr => ∃ (j : Nat), v4 = .bool false ∧ v5 = .int .i64 (j : Int) ∧ j ≤ n ∧ n - j < kq ∧ Aside0 (Bx w wr TL))
    case atStart => exact ⟨0, rfl, rfl, Nat.zero_le _, by omega, hT⟩
    case round =>
      clear hT
      obtain ⟨j, rfl, rfl, hj, hk, hT⟩ := hrel
      obtain ⟨k1, rfl⟩ : ∃ m, gk = m + 1 := ⟨gk - 1, by omega⟩
      obtain ⟨y6, z6⟩ := (hRow.out _ hT.out) 6 _ rfl
      by_cases hjn : j < n
      · have hjnI : (j : Int) < (n : Int) := by omega
        go_wp2
        go_roundg k1
        case measure => omega
        case rel => exact ⟨j + 1, rfl, rfl, by omega, by omega, hT⟩
      · have hjnI : ¬ (j : Int) < (n : Int) := by omega
        clear hk
        go_wp2
        go_ret
        exact ⟨rfl, hT.out.b⟩
set_option maxHeartbeats 16000000 in
set_option maxRecDepth 1000000 in
theorem right_6 (d n c : Nat) (op key vs : ByteArray) (vk vn pn : Int) (kids : List Pol) (A : Option Addr) (w : World) (b : Bool) (hn : kids.length = n) (hkl : key.size ≤ 200) (hC : (kp 43 d).C w A n kids) (hF : Aside0 (∀ q cs W, q ∈ kids → (kp 43 d).K W q cs → Calls Try.prog 49 #[.agg cs.toArray] W fun e w' => e = .returned (.bool (fm d q)) ∧ Below W.heap.size W w')) (hb : fm (d + 1) (⟨op, key, vk, vn, vs, pn, kids⟩ : Pol) = b) (hop6 : op.toList = [110, 111, 116]) :
    Calls Try.prog 49 #[.agg #[.string op, .string key, .int .i64 vk, .int .i64 vn, .string vs, .int .u64 pn, .slice A n c]] w fun e w' => e = .returned (.bool b) ∧ Below w.heap.size w w' := by
  replace hkl := Aside0.mk hkl
  have hnm := Kd.C_max hC
  have hT1 := (Bx.start w).new [.string op, .string key, .int .i64 vk, .int .i64 vn, .string vs, .int .u64 pn, .slice A n c] 43
  have e1 := size_alloc w (.cells #[.string op, .string key, .int .i64 vk, .int .i64 vn, .string vs, .int .u64 pn, .slice A n c] 43)
  have hT := hT1.new [.int .i64 0, .int .i64 0, .string ⟨#[]⟩] 40
  rw [e1] at hT
  obtain ⟨TL, hTL⟩ : ∃ TL : List (Nat × List Value), [(w.heap.size + 1, [.int .i64 0, .int .i64 0, .string ⟨#[]⟩]), (w.heap.size, [.string op, .string key, .int .i64 vk, .int .i64 vn, .string vs, .int .u64 pn, .slice A n c])] = TL := ⟨_, rfl⟩
  rw [hTL] at hT
  replace hT := Aside0.mk hT
  have hRow := Aside0.mk (fun W (h : Bx w W TL) => h.row (g := w.heap.size) (cs := [.string op, .string key, .int .i64 vk, .int .i64 vn, .string vs, .int .u64 pn, .slice A n c]) (by rw [← hTL]; simp))
  clear hT1 e1 hTL
  replace hC := Aside0.mk hC
  have hNo := Aside0.mk (fun k (h1 : opc op.toList = k) (h2 : ownC (⟨op, key, vk, vn, vs, pn, kids⟩ : Pol) n k = false) => fm_no (d := d) (p := (⟨op, key, vk, vn, vs, pn, kids⟩ : Pol)) h1 (own_at hn h2))
  have hYes := Aside0.mk (fun k (h1 : opc op.toList = k) (h2 : ownC (⟨op, key, vk, vn, vs, pn, kids⟩ : Pol) n k = true) => (fm_yes (d := d) (p := (⟨op, key, vk, vn, vs, pn, kids⟩ : Pol)) h1 (own_at hn h2)).trans (allk_any d kids))
  replace hn := Aside0.mk hn
  replace hb := Aside0.mk hb
  have hcode := Aside0.mk (show opc op.toList = 6 by rw [hop6]; decide)
  by_cases g0 : key.toList = []
  · by_cases g1 : vk = 0 ∧ vn = 0 ∧ vs.toList = []
    · obtain ⟨rfl, rfl, gv1⟩ := g1
      by_cases g2 : pn = 0
      · subst g2
        by_cases g3 : n = 1
        · subst g3
          have hown := hYes.out 6 hcode.out (decide_eq_true ⟨g0, ⟨rfl, rfl, gv1⟩, rfl, rfl⟩)
          have hb' := hb.out
          rw [hown] at hb'
          subst hb'
          clear hown hcode hNo hYes
          go_enter Try.func49, Try.ntmps49
          go_wp2
          go_loopg [4, 5] (1 + 1) (fun kq v4 v5 wr => ∃ (j : Nat) (r : Bool), v4 = .bool r ∧ v5 = .int .i64 (j : Int) ∧ j ≤ 1 ∧ 1 - j < kq ∧ Aside0 (allk d (kids.take j) = r) ∧ Aside0 (Bx w wr TL))
          case atStart => exact ⟨0, true, rfl, rfl, Nat.zero_le _, by omega, ⟨rfl⟩, hT⟩
          case round =>
            clear hT
            obtain ⟨j, r, rfl, rfl, hj, hk, hA, hT⟩ := hrel
            obtain ⟨k1, rfl⟩ : ∃ m, gk = m + 1 := ⟨gk - 1, by omega⟩
            obtain ⟨y6, z6⟩ := (hRow.out _ hT.out) 6 _ rfl
            have hj0 : (0 : Int) ≤ (j : Int) := by omega
            by_cases hjn : j < 1
            · have hjnI : (j : Int) < ((1 : Nat) : Int) := by omega
              have hjl : j < kids.length := by rw [hn.out]; exact hjn
              have hst := allk_snoc (d := d) hjl
              rw [hA.out] at hst
              cases r with
              | false =>
                rw [Bool.false_and] at hst
                replace hst := Aside0.mk hst
                clear hA
                go_wp2
                go_roundg k1
                case measure => omega
                case rel => exact ⟨j + 1, false, rfl, rfl, by omega, by omega, hst, hT⟩
              | true =>
                rw [Bool.true_and] at hst
                cases d with
                | zero => exact absurd hjl (by rw [kp_none hC.out]; simp)
                | succ d' =>
                  obtain ⟨ad, A6, c6, rfl, x0, x1, x2, x3, x4, x5, x6, l6, g6⟩ := kp_at (Kd.C_below hC.out hT.out.b) j hjl hjn
                  have hqm := Aside0.mk (List.getElem_mem hjl)
                  generalize hq : kids[j] = q at x0 x1 x2 x3 x4 x5 x6 l6 g6 hqm hst
                  have hKq := Aside0.mk (kp_mk (e := 43) wr q l6 g6)
                  clear hq g6 l6 hA
                  have hcall := hF.out q [.string q.op, .string q.key, .int .i64 q.vk, .int .i64 q.vn, .string q.vs, .int .u64 q.n, .slice A6 q.kids.length c6] wr hqm.out hKq.out
                  cases hfq : fm (d' + 1) q with
                  | false =>
                    rw [hfq] at hst hcall
                    replace hst := Aside0.mk hst
                    replace hcall := Aside0.mk hcall
                    clear hfq
                    go_wp2_with (go_at_call 49; refine hcall.out.mono ?_; rintro e w2 ⟨rfl, hb2⟩; replace hT := Aside0.mk (hT.out.keep hb2); clear hb2)
                    go_roundg k1
                    case measure => omega
                    case rel => exact ⟨j + 1, false, rfl, rfl, by omega, by omega, hst, hT⟩
                  | true =>
                    rw [hfq] at hst hcall
                    replace hst := Aside0.mk hst
                    replace hcall := Aside0.mk hcall
                    clear hfq
                    go_wp2_with (go_at_call 49; refine hcall.out.mono ?_; rintro e w2 ⟨rfl, hb2⟩; replace hT := Aside0.mk (hT.out.keep hb2); clear hb2)
                    go_roundg k1
                    case measure => omega
                    case rel => exact ⟨j + 1, true, rfl, rfl, by omega, by omega, hst, hT⟩
            · have hjnI : ¬ (j : Int) < ((1 : Nat) : Int) := by omega
              have hall : kids.take j = kids := List.take_of_length_le (by rw [hn.out]; omega)
              have hA2 := hA.out
              rw [hall] at hA2
              replace hA2 := Aside0.mk hA2
              clear hk hall hA
              go_wp2
              go_ret
              exact ⟨by rw [hA2.out]; rfl, hT.out.b⟩
        · have hown := hNo.out 6 hcode.out (decide_eq_false (by rintro ⟨g0_, g1_, g2_, g3_⟩; exact absurd g3_ g3))
          have hb' := hb.out
          rw [hown] at hb'
          subst hb'
          clear hown hF hcode hNo hYes
          have gI : ((n : Int) == 1) = false := by rw [beq_eq_false_iff_ne]; omega
          go_enter Try.func49, Try.ntmps49
          go_wp2
          go_loopg [4, 5] (n + 1) (fun kq v4 v5 wr => ∃ (j : Nat), v4 = .bool false ∧ v5 = .int .i64 (j : Int) ∧ j ≤ n ∧ n - j < kq ∧ Aside0 (Bx w wr TL))
          case atStart => exact ⟨0, rfl, rfl, Nat.zero_le _, by omega, hT⟩
          case round =>
            clear hT
            obtain ⟨j, rfl, rfl, hj, hk, hT⟩ := hrel
            obtain ⟨k1, rfl⟩ : ∃ m, gk = m + 1 := ⟨gk - 1, by omega⟩
            obtain ⟨y6, z6⟩ := (hRow.out _ hT.out) 6 _ rfl
            by_cases hjn : j < n
            · have hjnI : (j : Int) < (n : Int) := by omega
              go_wp2
              go_roundg k1
              case measure => omega
              case rel => exact ⟨j + 1, rfl, rfl, by omega, by omega, hT⟩
            · have hjnI : ¬ (j : Int) < (n : Int) := by omega
              clear hk
              go_wp2
              go_ret
              exact ⟨rfl, hT.out.b⟩
      · have hown := hNo.out 6 hcode.out (decide_eq_false (by rintro ⟨g0_, g1_, g2_, g3_⟩; exact absurd g2_ g2))
        have hb' := hb.out
        rw [hown] at hb'
        subst hb'
        clear hown hF hcode hNo hYes
        go_enter Try.func49, Try.ntmps49
        go_wp2
        go_loopg [4, 5] (n + 1) (fun kq v4 v5 wr => ∃ (j : Nat), v4 = .bool false ∧ v5 = .int .i64 (j : Int) ∧ j ≤ n ∧ n - j < kq ∧ Aside0 (Bx w wr TL))
        case atStart => exact ⟨0, rfl, rfl, Nat.zero_le _, by omega, hT⟩
        case round =>
          clear hT
          obtain ⟨j, rfl, rfl, hj, hk, hT⟩ := hrel
          obtain ⟨k1, rfl⟩ : ∃ m, gk = m + 1 := ⟨gk - 1, by omega⟩
          obtain ⟨y6, z6⟩ := (hRow.out _ hT.out) 6 _ rfl
          by_cases hjn : j < n
          · have hjnI : (j : Int) < (n : Int) := by omega
            go_wp2
            go_roundg k1
            case measure => omega
            case rel => exact ⟨j + 1, rfl, rfl, by omega, by omega, hT⟩
          · have hjnI : ¬ (j : Int) < (n : Int) := by omega
            clear hk
            go_wp2
            go_ret
            exact ⟨rfl, hT.out.b⟩
    · have hown := hNo.out 6 hcode.out (decide_eq_false (by rintro ⟨g0_, g1_, g2_, g3_⟩; exact absurd g1_ g1))
      have hb' := hb.out
      rw [hown] at hb'
      subst hb'
      clear hown hF hcode hNo hYes
      go_enter Try.func49, Try.ntmps49
      go_wp2
      go_loopg [4, 5] (n + 1) (fun kq v4 v5 wr => ∃ (j : Nat), v4 = .bool false ∧ v5 = .int .i64 (j : Int) ∧ j ≤ n ∧ n - j < kq ∧ Aside0 (Bx w wr TL))
      case atStart => exact ⟨0, rfl, rfl, Nat.zero_le _, by omega, hT⟩
      case round =>
        clear hT
        obtain ⟨j, rfl, rfl, hj, hk, hT⟩ := hrel
        obtain ⟨k1, rfl⟩ : ∃ m, gk = m + 1 := ⟨gk - 1, by omega⟩
        obtain ⟨y6, z6⟩ := (hRow.out _ hT.out) 6 _ rfl
        by_cases hjn : j < n
        · have hjnI : (j : Int) < (n : Int) := by omega
          go_wp2
          go_roundg k1
          case measure => omega
          case rel => exact ⟨j + 1, rfl, rfl, by omega, by omega, hT⟩
        · have hjnI : ¬ (j : Int) < (n : Int) := by omega
          clear hk
          go_wp2
          go_ret
          exact ⟨rfl, hT.out.b⟩
  · have hown := hNo.out 6 hcode.out (decide_eq_false (by rintro ⟨g0_, g1_, g2_, g3_⟩; exact absurd g0_ g0))
    have hb' := hb.out
    rw [hown] at hb'
    subst hb'
    clear hown hF hcode hNo hYes
    go_enter Try.func49, Try.ntmps49
    go_wp2
    go_loopg [4, 5] (n + 1) (fun kq v4 v5 wr => ∃ (j : Nat), v4 = .bool false ∧ v5 = .int .i64 (j : Int) ∧ j ≤ n ∧ n - j < kq ∧ Aside0 (Bx w wr TL))
    case atStart => exact ⟨0, rfl, rfl, Nat.zero_le _, by omega, hT⟩
    case round =>
      clear hT
      obtain ⟨j, rfl, rfl, hj, hk, hT⟩ := hrel
      obtain ⟨k1, rfl⟩ : ∃ m, gk = m + 1 := ⟨gk - 1, by omega⟩
      obtain ⟨y6, z6⟩ := (hRow.out _ hT.out) 6 _ rfl
      by_cases hjn : j < n
      · have hjnI : (j : Int) < (n : Int) := by omega
        go_wp2
        go_roundg k1
        case measure => omega
        case rel => exact ⟨j + 1, rfl, rfl, by omega, by omega, hT⟩
      · have hjnI : ¬ (j : Int) < (n : Int) := by omega
        clear hk
        go_wp2
        go_ret
        exact ⟨rfl, hT.out.b⟩
set_option maxHeartbeats 16000000 in
set_option maxRecDepth 1000000 in
theorem right_7 (d n c : Nat) (op key vs : ByteArray) (vk vn pn : Int) (kids : List Pol) (A : Option Addr) (w : World) (b : Bool) (hn : kids.length = n) (hkl : key.size ≤ 200) (hC : (kp 43 d).C w A n kids) (hF : Aside0 (∀ q cs W, q ∈ kids → (kp 43 d).K W q cs → Calls Try.prog 49 #[.agg cs.toArray] W fun e w' => e = .returned (.bool (fm d q)) ∧ Below W.heap.size W w')) (hb : fm (d + 1) (⟨op, key, vk, vn, vs, pn, kids⟩ : Pol) = b) (hop7 : op.toList = [97, 110, 100]) :
    Calls Try.prog 49 #[.agg #[.string op, .string key, .int .i64 vk, .int .i64 vn, .string vs, .int .u64 pn, .slice A n c]] w fun e w' => e = .returned (.bool b) ∧ Below w.heap.size w w' := by
  replace hkl := Aside0.mk hkl
  have hnm := Kd.C_max hC
  have hT1 := (Bx.start w).new [.string op, .string key, .int .i64 vk, .int .i64 vn, .string vs, .int .u64 pn, .slice A n c] 43
  have e1 := size_alloc w (.cells #[.string op, .string key, .int .i64 vk, .int .i64 vn, .string vs, .int .u64 pn, .slice A n c] 43)
  have hT := hT1.new [.int .i64 0, .int .i64 0, .string ⟨#[]⟩] 40
  rw [e1] at hT
  obtain ⟨TL, hTL⟩ : ∃ TL : List (Nat × List Value), [(w.heap.size + 1, [.int .i64 0, .int .i64 0, .string ⟨#[]⟩]), (w.heap.size, [.string op, .string key, .int .i64 vk, .int .i64 vn, .string vs, .int .u64 pn, .slice A n c])] = TL := ⟨_, rfl⟩
  rw [hTL] at hT
  replace hT := Aside0.mk hT
  have hRow := Aside0.mk (fun W (h : Bx w W TL) => h.row (g := w.heap.size) (cs := [.string op, .string key, .int .i64 vk, .int .i64 vn, .string vs, .int .u64 pn, .slice A n c]) (by rw [← hTL]; simp))
  clear hT1 e1 hTL
  replace hC := Aside0.mk hC
  have hNo := Aside0.mk (fun k (h1 : opc op.toList = k) (h2 : ownC (⟨op, key, vk, vn, vs, pn, kids⟩ : Pol) n k = false) => fm_no (d := d) (p := (⟨op, key, vk, vn, vs, pn, kids⟩ : Pol)) h1 (own_at hn h2))
  have hYes := Aside0.mk (fun k (h1 : opc op.toList = k) (h2 : ownC (⟨op, key, vk, vn, vs, pn, kids⟩ : Pol) n k = true) => (fm_yes (d := d) (p := (⟨op, key, vk, vn, vs, pn, kids⟩ : Pol)) h1 (own_at hn h2)).trans (allk_any d kids))
  replace hn := Aside0.mk hn
  replace hb := Aside0.mk hb
  have hcode := Aside0.mk (show opc op.toList = 7 by rw [hop7]; decide)
  by_cases g0 : key.toList = []
  · by_cases g1 : vk = 0 ∧ vn = 0 ∧ vs.toList = []
    · obtain ⟨rfl, rfl, gv1⟩ := g1
      by_cases g2 : pn = 0
      · subst g2
        have hown := hYes.out 7 hcode.out (decide_eq_true ⟨g0, ⟨rfl, rfl, gv1⟩, rfl⟩)
        have hb' := hb.out
        rw [hown] at hb'
        subst hb'
        clear hown hcode hNo hYes
        go_enter Try.func49, Try.ntmps49
        go_wp2
        go_loopg [4, 5] (n + 1) (fun kq v4 v5 wr => ∃ (j : Nat) (r : Bool), v4 = .bool r ∧ v5 = .int .i64 (j : Int) ∧ j ≤ n ∧ n - j < kq ∧ Aside0 (allk d (kids.take j) = r) ∧ Aside0 (Bx w wr TL))
        case atStart => exact ⟨0, true, rfl, rfl, Nat.zero_le _, by omega, ⟨rfl⟩, hT⟩
        case round =>
          clear hT
          obtain ⟨j, r, rfl, rfl, hj, hk, hA, hT⟩ := hrel
          obtain ⟨k1, rfl⟩ : ∃ m, gk = m + 1 := ⟨gk - 1, by omega⟩
          obtain ⟨y6, z6⟩ := (hRow.out _ hT.out) 6 _ rfl
          have hj0 : (0 : Int) ≤ (j : Int) := by omega
          by_cases hjn : j < n
          · have hjnI : (j : Int) < (n : Int) := by omega
            have hjl : j < kids.length := by rw [hn.out]; exact hjn
            have hst := allk_snoc (d := d) hjl
            rw [hA.out] at hst
            cases r with
            | false =>
              rw [Bool.false_and] at hst
              replace hst := Aside0.mk hst
              clear hA
              go_wp2
              go_roundg k1
              case measure => omega
              case rel => exact ⟨j + 1, false, rfl, rfl, by omega, by omega, hst, hT⟩
            | true =>
              rw [Bool.true_and] at hst
              cases d with
              | zero => exact absurd hjl (by rw [kp_none hC.out]; simp)
              | succ d' =>
                obtain ⟨ad, A6, c6, rfl, x0, x1, x2, x3, x4, x5, x6, l6, g6⟩ := kp_at (Kd.C_below hC.out hT.out.b) j hjl hjn
                have hqm := Aside0.mk (List.getElem_mem hjl)
                generalize hq : kids[j] = q at x0 x1 x2 x3 x4 x5 x6 l6 g6 hqm hst
                have hKq := Aside0.mk (kp_mk (e := 43) wr q l6 g6)
                clear hq g6 l6 hA
                have hcall := hF.out q [.string q.op, .string q.key, .int .i64 q.vk, .int .i64 q.vn, .string q.vs, .int .u64 q.n, .slice A6 q.kids.length c6] wr hqm.out hKq.out
                cases hfq : fm (d' + 1) q with
                | false =>
                  rw [hfq] at hst hcall
                  replace hst := Aside0.mk hst
                  replace hcall := Aside0.mk hcall
                  clear hfq
                  go_wp2_with (go_at_call 49; refine hcall.out.mono ?_; rintro e w2 ⟨rfl, hb2⟩; replace hT := Aside0.mk (hT.out.keep hb2); clear hb2)
                  go_roundg k1
                  case measure => omega
                  case rel => exact ⟨j + 1, false, rfl, rfl, by omega, by omega, hst, hT⟩
                | true =>
                  rw [hfq] at hst hcall
                  replace hst := Aside0.mk hst
                  replace hcall := Aside0.mk hcall
                  clear hfq
                  go_wp2_with (go_at_call 49; refine hcall.out.mono ?_; rintro e w2 ⟨rfl, hb2⟩; replace hT := Aside0.mk (hT.out.keep hb2); clear hb2)
                  go_roundg k1
                  case measure => omega
                  case rel => exact ⟨j + 1, true, rfl, rfl, by omega, by omega, hst, hT⟩
          · have hjnI : ¬ (j : Int) < (n : Int) := by omega
            have hall : kids.take j = kids := List.take_of_length_le (by rw [hn.out]; omega)
            have hA2 := hA.out
            rw [hall] at hA2
            replace hA2 := Aside0.mk hA2
            clear hk hall hA
            go_wp2
            go_ret
            exact ⟨by rw [hA2.out]; rfl, hT.out.b⟩
      · have hown := hNo.out 7 hcode.out (decide_eq_false (by rintro ⟨g0_, g1_, g2_⟩; exact absurd g2_ g2))
        have hb' := hb.out
        rw [hown] at hb'
        subst hb'
        clear hown hF hcode hNo hYes
        have gI : (pn == 0) = false := by rw [beq_eq_false_iff_ne]; exact g2
        go_enter Try.func49, Try.ntmps49
        go_wp2
        go_loopg [4, 5] (n + 1) (fun kq v4 v5 wr => ∃ (j : Nat), v4 = .bool false ∧ v5 = .int .i64 (j : Int) ∧ j ≤ n ∧ n - j < kq ∧ Aside0 (Bx w wr TL))
        case atStart => exact ⟨0, rfl, rfl, Nat.zero_le _, by omega, hT⟩
        case round =>
          clear hT
          obtain ⟨j, rfl, rfl, hj, hk, hT⟩ := hrel
          obtain ⟨k1, rfl⟩ : ∃ m, gk = m + 1 := ⟨gk - 1, by omega⟩
          obtain ⟨y6, z6⟩ := (hRow.out _ hT.out) 6 _ rfl
          by_cases hjn : j < n
          · have hjnI : (j : Int) < (n : Int) := by omega
            go_wp2
            go_roundg k1
            case measure => omega
            case rel => exact ⟨j + 1, rfl, rfl, by omega, by omega, hT⟩
          · have hjnI : ¬ (j : Int) < (n : Int) := by omega
            clear hk
            go_wp2
            go_ret
            exact ⟨rfl, hT.out.b⟩
    · have hown := hNo.out 7 hcode.out (decide_eq_false (by rintro ⟨g0_, g1_, g2_⟩; exact absurd g1_ g1))
      have hb' := hb.out
      rw [hown] at hb'
      subst hb'
      clear hown hF hcode hNo hYes
      go_enter Try.func49, Try.ntmps49
      go_wp2
      go_loopg [4, 5] (n + 1) (fun kq v4 v5 wr => ∃ (j : Nat), v4 = .bool false ∧ v5 = .int .i64 (j : Int) ∧ j ≤ n ∧ n - j < kq ∧ Aside0 (Bx w wr TL))
      case atStart => exact ⟨0, rfl, rfl, Nat.zero_le _, by omega, hT⟩
      case round =>
        clear hT
        obtain ⟨j, rfl, rfl, hj, hk, hT⟩ := hrel
        obtain ⟨k1, rfl⟩ : ∃ m, gk = m + 1 := ⟨gk - 1, by omega⟩
        obtain ⟨y6, z6⟩ := (hRow.out _ hT.out) 6 _ rfl
        by_cases hjn : j < n
        · have hjnI : (j : Int) < (n : Int) := by omega
          go_wp2
          go_roundg k1
          case measure => omega
          case rel => exact ⟨j + 1, rfl, rfl, by omega, by omega, hT⟩
        · have hjnI : ¬ (j : Int) < (n : Int) := by omega
          clear hk
          go_wp2
          go_ret
          exact ⟨rfl, hT.out.b⟩
  · have hown := hNo.out 7 hcode.out (decide_eq_false (by rintro ⟨g0_, g1_, g2_⟩; exact absurd g0_ g0))
    have hb' := hb.out
    rw [hown] at hb'
    subst hb'
    clear hown hF hcode hNo hYes
    go_enter Try.func49, Try.ntmps49
    go_wp2
    go_loopg [4, 5] (n + 1) (fun kq v4 v5 wr => ∃ (j : Nat), v4 = .bool false ∧ v5 = .int .i64 (j : Int) ∧ j ≤ n ∧ n - j < kq ∧ Aside0 (Bx w wr TL))
    case atStart => exact ⟨0, rfl, rfl, Nat.zero_le _, by omega, hT⟩
    case round =>
      clear hT
      obtain ⟨j, rfl, rfl, hj, hk, hT⟩ := hrel
      obtain ⟨k1, rfl⟩ : ∃ m, gk = m + 1 := ⟨gk - 1, by omega⟩
      obtain ⟨y6, z6⟩ := (hRow.out _ hT.out) 6 _ rfl
      by_cases hjn : j < n
      · have hjnI : (j : Int) < (n : Int) := by omega
        go_wp2
        go_roundg k1
        case measure => omega
        case rel => exact ⟨j + 1, rfl, rfl, by omega, by omega, hT⟩
      · have hjnI : ¬ (j : Int) < (n : Int) := by omega
        clear hk
        go_wp2
        go_ret
        exact ⟨rfl, hT.out.b⟩
set_option maxHeartbeats 16000000 in
set_option maxRecDepth 1000000 in
theorem right_8 (d n c : Nat) (op key vs : ByteArray) (vk vn pn : Int) (kids : List Pol) (A : Option Addr) (w : World) (b : Bool) (hn : kids.length = n) (hkl : key.size ≤ 200) (hC : (kp 43 d).C w A n kids) (hF : Aside0 (∀ q cs W, q ∈ kids → (kp 43 d).K W q cs → Calls Try.prog 49 #[.agg cs.toArray] W fun e w' => e = .returned (.bool (fm d q)) ∧ Below W.heap.size W w')) (hb : fm (d + 1) (⟨op, key, vk, vn, vs, pn, kids⟩ : Pol) = b) (hop8 : op.toList = [111, 114]) :
    Calls Try.prog 49 #[.agg #[.string op, .string key, .int .i64 vk, .int .i64 vn, .string vs, .int .u64 pn, .slice A n c]] w fun e w' => e = .returned (.bool b) ∧ Below w.heap.size w w' := by
  replace hkl := Aside0.mk hkl
  have hnm := Kd.C_max hC
  have hT1 := (Bx.start w).new [.string op, .string key, .int .i64 vk, .int .i64 vn, .string vs, .int .u64 pn, .slice A n c] 43
  have e1 := size_alloc w (.cells #[.string op, .string key, .int .i64 vk, .int .i64 vn, .string vs, .int .u64 pn, .slice A n c] 43)
  have hT := hT1.new [.int .i64 0, .int .i64 0, .string ⟨#[]⟩] 40
  rw [e1] at hT
  obtain ⟨TL, hTL⟩ : ∃ TL : List (Nat × List Value), [(w.heap.size + 1, [.int .i64 0, .int .i64 0, .string ⟨#[]⟩]), (w.heap.size, [.string op, .string key, .int .i64 vk, .int .i64 vn, .string vs, .int .u64 pn, .slice A n c])] = TL := ⟨_, rfl⟩
  rw [hTL] at hT
  replace hT := Aside0.mk hT
  have hRow := Aside0.mk (fun W (h : Bx w W TL) => h.row (g := w.heap.size) (cs := [.string op, .string key, .int .i64 vk, .int .i64 vn, .string vs, .int .u64 pn, .slice A n c]) (by rw [← hTL]; simp))
  clear hT1 e1 hTL
  replace hC := Aside0.mk hC
  have hNo := Aside0.mk (fun k (h1 : opc op.toList = k) (h2 : ownC (⟨op, key, vk, vn, vs, pn, kids⟩ : Pol) n k = false) => fm_no (d := d) (p := (⟨op, key, vk, vn, vs, pn, kids⟩ : Pol)) h1 (own_at hn h2))
  have hYes := Aside0.mk (fun k (h1 : opc op.toList = k) (h2 : ownC (⟨op, key, vk, vn, vs, pn, kids⟩ : Pol) n k = true) => (fm_yes (d := d) (p := (⟨op, key, vk, vn, vs, pn, kids⟩ : Pol)) h1 (own_at hn h2)).trans (allk_any d kids))
  replace hn := Aside0.mk hn
  replace hb := Aside0.mk hb
  have hcode := Aside0.mk (show opc op.toList = 7 by rw [hop8]; decide)
  by_cases g0 : key.toList = []
  · by_cases g1 : vk = 0 ∧ vn = 0 ∧ vs.toList = []
    · obtain ⟨rfl, rfl, gv1⟩ := g1
      by_cases g2 : pn = 0
      · subst g2
        have hown := hYes.out 7 hcode.out (decide_eq_true ⟨g0, ⟨rfl, rfl, gv1⟩, rfl⟩)
        have hb' := hb.out
        rw [hown] at hb'
        subst hb'
        clear hown hcode hNo hYes
        go_enter Try.func49, Try.ntmps49
        go_wp2
        go_loopg [4, 5] (n + 1) (fun kq v4 v5 wr => ∃ (j : Nat) (r : Bool), v4 = .bool r ∧ v5 = .int .i64 (j : Int) ∧ j ≤ n ∧ n - j < kq ∧ Aside0 (allk d (kids.take j) = r) ∧ Aside0 (Bx w wr TL))
        case atStart => exact ⟨0, true, rfl, rfl, Nat.zero_le _, by omega, ⟨rfl⟩, hT⟩
        case round =>
          clear hT
          obtain ⟨j, r, rfl, rfl, hj, hk, hA, hT⟩ := hrel
          obtain ⟨k1, rfl⟩ : ∃ m, gk = m + 1 := ⟨gk - 1, by omega⟩
          obtain ⟨y6, z6⟩ := (hRow.out _ hT.out) 6 _ rfl
          have hj0 : (0 : Int) ≤ (j : Int) := by omega
          by_cases hjn : j < n
          · have hjnI : (j : Int) < (n : Int) := by omega
            have hjl : j < kids.length := by rw [hn.out]; exact hjn
            have hst := allk_snoc (d := d) hjl
            rw [hA.out] at hst
            cases r with
            | false =>
              rw [Bool.false_and] at hst
              replace hst := Aside0.mk hst
              clear hA
              go_wp2
              go_roundg k1
              case measure => omega
              case rel => exact ⟨j + 1, false, rfl, rfl, by omega, by omega, hst, hT⟩
            | true =>
              rw [Bool.true_and] at hst
              cases d with
              | zero => exact absurd hjl (by rw [kp_none hC.out]; simp)
              | succ d' =>
                obtain ⟨ad, A6, c6, rfl, x0, x1, x2, x3, x4, x5, x6, l6, g6⟩ := kp_at (Kd.C_below hC.out hT.out.b) j hjl hjn
                have hqm := Aside0.mk (List.getElem_mem hjl)
                generalize hq : kids[j] = q at x0 x1 x2 x3 x4 x5 x6 l6 g6 hqm hst
                have hKq := Aside0.mk (kp_mk (e := 43) wr q l6 g6)
                clear hq g6 l6 hA
                have hcall := hF.out q [.string q.op, .string q.key, .int .i64 q.vk, .int .i64 q.vn, .string q.vs, .int .u64 q.n, .slice A6 q.kids.length c6] wr hqm.out hKq.out
                cases hfq : fm (d' + 1) q with
                | false =>
                  rw [hfq] at hst hcall
                  replace hst := Aside0.mk hst
                  replace hcall := Aside0.mk hcall
                  clear hfq
                  go_wp2_with (go_at_call 49; refine hcall.out.mono ?_; rintro e w2 ⟨rfl, hb2⟩; replace hT := Aside0.mk (hT.out.keep hb2); clear hb2)
                  go_roundg k1
                  case measure => omega
                  case rel => exact ⟨j + 1, false, rfl, rfl, by omega, by omega, hst, hT⟩
                | true =>
                  rw [hfq] at hst hcall
                  replace hst := Aside0.mk hst
                  replace hcall := Aside0.mk hcall
                  clear hfq
                  go_wp2_with (go_at_call 49; refine hcall.out.mono ?_; rintro e w2 ⟨rfl, hb2⟩; replace hT := Aside0.mk (hT.out.keep hb2); clear hb2)
                  go_roundg k1
                  case measure => omega
                  case rel => exact ⟨j + 1, true, rfl, rfl, by omega, by omega, hst, hT⟩
          · have hjnI : ¬ (j : Int) < (n : Int) := by omega
            have hall : kids.take j = kids := List.take_of_length_le (by rw [hn.out]; omega)
            have hA2 := hA.out
            rw [hall] at hA2
            replace hA2 := Aside0.mk hA2
            clear hk hall hA
            go_wp2
            go_ret
            exact ⟨by rw [hA2.out]; rfl, hT.out.b⟩
      · have hown := hNo.out 7 hcode.out (decide_eq_false (by rintro ⟨g0_, g1_, g2_⟩; exact absurd g2_ g2))
        have hb' := hb.out
        rw [hown] at hb'
        subst hb'
        clear hown hF hcode hNo hYes
        have gI : (pn == 0) = false := by rw [beq_eq_false_iff_ne]; exact g2
        go_enter Try.func49, Try.ntmps49
        go_wp2
        go_loopg [4, 5] (n + 1) (fun kq v4 v5 wr => ∃ (j : Nat), v4 = .bool false ∧ v5 = .int .i64 (j : Int) ∧ j ≤ n ∧ n - j < kq ∧ Aside0 (Bx w wr TL))
        case atStart => exact ⟨0, rfl, rfl, Nat.zero_le _, by omega, hT⟩
        case round =>
          clear hT
          obtain ⟨j, rfl, rfl, hj, hk, hT⟩ := hrel
          obtain ⟨k1, rfl⟩ : ∃ m, gk = m + 1 := ⟨gk - 1, by omega⟩
          obtain ⟨y6, z6⟩ := (hRow.out _ hT.out) 6 _ rfl
          by_cases hjn : j < n
          · have hjnI : (j : Int) < (n : Int) := by omega
            go_wp2
            go_roundg k1
            case measure => omega
            case rel => exact ⟨j + 1, rfl, rfl, by omega, by omega, hT⟩
          · have hjnI : ¬ (j : Int) < (n : Int) := by omega
            clear hk
            go_wp2
            go_ret
            exact ⟨rfl, hT.out.b⟩
    · have hown := hNo.out 7 hcode.out (decide_eq_false (by rintro ⟨g0_, g1_, g2_⟩; exact absurd g1_ g1))
      have hb' := hb.out
      rw [hown] at hb'
      subst hb'
      clear hown hF hcode hNo hYes
      go_enter Try.func49, Try.ntmps49
      go_wp2
      go_loopg [4, 5] (n + 1) (fun kq v4 v5 wr => ∃ (j : Nat), v4 = .bool false ∧ v5 = .int .i64 (j : Int) ∧ j ≤ n ∧ n - j < kq ∧ Aside0 (Bx w wr TL))
      case atStart => exact ⟨0, rfl, rfl, Nat.zero_le _, by omega, hT⟩
      case round =>
        clear hT
        obtain ⟨j, rfl, rfl, hj, hk, hT⟩ := hrel
        obtain ⟨k1, rfl⟩ : ∃ m, gk = m + 1 := ⟨gk - 1, by omega⟩
        obtain ⟨y6, z6⟩ := (hRow.out _ hT.out) 6 _ rfl
        by_cases hjn : j < n
        · have hjnI : (j : Int) < (n : Int) := by omega
          go_wp2
          go_roundg k1
          case measure => omega
          case rel => exact ⟨j + 1, rfl, rfl, by omega, by omega, hT⟩
        · have hjnI : ¬ (j : Int) < (n : Int) := by omega
          clear hk
          go_wp2
          go_ret
          exact ⟨rfl, hT.out.b⟩
  · have hown := hNo.out 7 hcode.out (decide_eq_false (by rintro ⟨g0_, g1_, g2_⟩; exact absurd g0_ g0))
    have hb' := hb.out
    rw [hown] at hb'
    subst hb'
    clear hown hF hcode hNo hYes
    go_enter Try.func49, Try.ntmps49
    go_wp2
    go_loopg [4, 5] (n + 1) (fun kq v4 v5 wr => ∃ (j : Nat), v4 = .bool false ∧ v5 = .int .i64 (j : Int) ∧ j ≤ n ∧ n - j < kq ∧ Aside0 (Bx w wr TL))
    case atStart => exact ⟨0, rfl, rfl, Nat.zero_le _, by omega, hT⟩
    case round =>
      clear hT
      obtain ⟨j, rfl, rfl, hj, hk, hT⟩ := hrel
      obtain ⟨k1, rfl⟩ : ∃ m, gk = m + 1 := ⟨gk - 1, by omega⟩
      obtain ⟨y6, z6⟩ := (hRow.out _ hT.out) 6 _ rfl
      by_cases hjn : j < n
      · have hjnI : (j : Int) < (n : Int) := by omega
        go_wp2
        go_roundg k1
        case measure => omega
        case rel => exact ⟨j + 1, rfl, rfl, by omega, by omega, hT⟩
      · have hjnI : ¬ (j : Int) < (n : Int) := by omega
        clear hk
        go_wp2
        go_ret
        exact ⟨rfl, hT.out.b⟩
set_option maxHeartbeats 16000000 in
set_option maxRecDepth 1000000 in
theorem right_9 (d n c : Nat) (op key vs : ByteArray) (vk vn pn : Int) (kids : List Pol) (A : Option Addr) (w : World) (b : Bool) (hn : kids.length = n) (hkl : key.size ≤ 200) (hC : (kp 43 d).C w A n kids) (hF : Aside0 (∀ q cs W, q ∈ kids → (kp 43 d).K W q cs → Calls Try.prog 49 #[.agg cs.toArray] W fun e w' => e = .returned (.bool (fm d q)) ∧ Below W.heap.size W w')) (hb : fm (d + 1) (⟨op, key, vk, vn, vs, pn, kids⟩ : Pol) = b) (hop0 : ¬ op.toList = [97, 108, 108]) (hop1 : ¬ op.toList = [110, 111, 110, 101]) (hop2 : ¬ op.toList = [101, 114, 114, 111, 114]) (hop3 : ¬ op.toList = [115, 108, 111, 119]) (hop4 : ¬ op.toList = [115, 104, 97, 114, 101]) (hop5 : ¬ op.toList = [97, 116, 116, 114]) (hop6 : ¬ op.toList = [110, 111, 116]) (hop7 : ¬ op.toList = [97, 110, 100]) (hop8 : ¬ op.toList = [111, 114]) :
    Calls Try.prog 49 #[.agg #[.string op, .string key, .int .i64 vk, .int .i64 vn, .string vs, .int .u64 pn, .slice A n c]] w fun e w' => e = .returned (.bool b) ∧ Below w.heap.size w w' := by
  replace hkl := Aside0.mk hkl
  have hnm := Kd.C_max hC
  have hT1 := (Bx.start w).new [.string op, .string key, .int .i64 vk, .int .i64 vn, .string vs, .int .u64 pn, .slice A n c] 43
  have e1 := size_alloc w (.cells #[.string op, .string key, .int .i64 vk, .int .i64 vn, .string vs, .int .u64 pn, .slice A n c] 43)
  have hT := hT1.new [.int .i64 0, .int .i64 0, .string ⟨#[]⟩] 40
  rw [e1] at hT
  obtain ⟨TL, hTL⟩ : ∃ TL : List (Nat × List Value), [(w.heap.size + 1, [.int .i64 0, .int .i64 0, .string ⟨#[]⟩]), (w.heap.size, [.string op, .string key, .int .i64 vk, .int .i64 vn, .string vs, .int .u64 pn, .slice A n c])] = TL := ⟨_, rfl⟩
  rw [hTL] at hT
  replace hT := Aside0.mk hT
  have hRow := Aside0.mk (fun W (h : Bx w W TL) => h.row (g := w.heap.size) (cs := [.string op, .string key, .int .i64 vk, .int .i64 vn, .string vs, .int .u64 pn, .slice A n c]) (by rw [← hTL]; simp))
  clear hT1 e1 hTL
  replace hC := Aside0.mk hC
  have hNo := Aside0.mk (fun k (h1 : opc op.toList = k) (h2 : ownC (⟨op, key, vk, vn, vs, pn, kids⟩ : Pol) n k = false) => fm_no (d := d) (p := (⟨op, key, vk, vn, vs, pn, kids⟩ : Pol)) h1 (own_at hn h2))
  have hYes := Aside0.mk (fun k (h1 : opc op.toList = k) (h2 : ownC (⟨op, key, vk, vn, vs, pn, kids⟩ : Pol) n k = true) => (fm_yes (d := d) (p := (⟨op, key, vk, vn, vs, pn, kids⟩ : Pol)) h1 (own_at hn h2)).trans (allk_any d kids))
  replace hn := Aside0.mk hn
  replace hb := Aside0.mk hb
  have hq0 : (op.toList == [97, 108, 108]) = false := by simpa using hop0
  have hq1 : (op.toList == [110, 111, 110, 101]) = false := by simpa using hop1
  have hq2 : (op.toList == [101, 114, 114, 111, 114]) = false := by simpa using hop2
  have hq3 : (op.toList == [115, 108, 111, 119]) = false := by simpa using hop3
  have hq4 : (op.toList == [115, 104, 97, 114, 101]) = false := by simpa using hop4
  have hq5 : (op.toList == [97, 116, 116, 114]) = false := by simpa using hop5
  have hq6 : (op.toList == [110, 111, 116]) = false := by simpa using hop6
  have hq7 : (op.toList == [97, 110, 100]) = false := by simpa using hop7
  have hq8 : (op.toList == [111, 114]) = false := by simpa using hop8
  have hcode := Aside0.mk (show opc op.toList = 8 by unfold opc; simp [hop0, hop1, hop2, hop3, hop4, hop5, hop6, hop7, hop8])
  have hown := hNo.out 8 hcode.out rfl
  have hb' := hb.out
  rw [hown] at hb'
  subst hb'
  clear hown hF hcode hNo hYes hop0 hop1 hop2 hop3 hop4 hop5 hop6 hop7 hop8
  go_enter Try.func49, Try.ntmps49
  go_wp2
  go_loopg [4, 5] (n + 1) (fun kq v4 v5 wr => ∃ (j : Nat), v4 = .bool false ∧ v5 = .int .i64 (j : Int) ∧ j ≤ n ∧ n - j < kq ∧ Aside0 (Bx w wr TL))
  case atStart => exact ⟨0, rfl, rfl, Nat.zero_le _, by omega, hT⟩
  case round =>
    clear hT
    obtain ⟨j, rfl, rfl, hj, hk, hT⟩ := hrel
    obtain ⟨k1, rfl⟩ : ∃ m, gk = m + 1 := ⟨gk - 1, by omega⟩
    obtain ⟨y6, z6⟩ := (hRow.out _ hT.out) 6 _ rfl
    by_cases hjn : j < n
    · have hjnI : (j : Int) < (n : Int) := by omega
      go_wp2
      go_roundg k1
      case measure => omega
      case rel => exact ⟨j + 1, rfl, rfl, by omega, by omega, hT⟩
    · have hjnI : ¬ (j : Int) < (n : Int) := by omega
      clear hk
      go_wp2
      go_ret
      exact ⟨rfl, hT.out.b⟩
theorem right_w : ∀ (d : Nat) (p : Pol) (cs : List Value) (w : World) (b : Bool), keys d p → (kp 43 d).K w p cs → fm d p = b →
    Calls Try.prog 49 #[.agg cs.toArray] w fun e w' => e = .returned (.bool b) ∧ Below w.heap.size w w' := by
  intro d
  induction d with
  | zero => intro p cs w b _ hK; exact (kp_no hK).elim
  | succ d ih =>
    intro p cs w b hky hK hb
    obtain ⟨A, c, rfl, hc, hC⟩ := kp_open hK
    have hF := Aside0.mk (fun q cs W (hq : q ∈ p.kids) (hK : (kp 43 d).K W q cs) => ih q cs W _ (hky.2.2 q hq) hK rfl)
    by_cases h0 : p.op.toList = [97, 108, 108]
    · exact right_0 d _ c p.op p.key p.vs p.vk p.vn p.n p.kids A w b rfl hky.1 hC hF hb h0
    by_cases h1 : p.op.toList = [110, 111, 110, 101]
    · exact right_1 d _ c p.op p.key p.vs p.vk p.vn p.n p.kids A w b rfl hky.1 hC hF hb h1
    by_cases h2 : p.op.toList = [101, 114, 114, 111, 114]
    · exact right_2 d _ c p.op p.key p.vs p.vk p.vn p.n p.kids A w b rfl hky.1 hC hF hb h2
    by_cases h3 : p.op.toList = [115, 108, 111, 119]
    · exact right_3 d _ c p.op p.key p.vs p.vk p.vn p.n p.kids A w b rfl hky.1 hC hF hb h3
    by_cases h4 : p.op.toList = [115, 104, 97, 114, 101]
    · exact right_4 d _ c p.op p.key p.vs p.vk p.vn p.n p.kids A w b rfl hky.1 hC hF hb h4
    by_cases h5 : p.op.toList = [97, 116, 116, 114]
    · exact right_5 d _ c p.op p.key p.vs p.vk p.vn p.n p.kids A w b rfl hky.1 hC hF hb h5
    by_cases h6 : p.op.toList = [110, 111, 116]
    · exact right_6 d _ c p.op p.key p.vs p.vk p.vn p.n p.kids A w b rfl hky.1 hC hF hb h6
    by_cases h7 : p.op.toList = [97, 110, 100]
    · exact right_7 d _ c p.op p.key p.vs p.vk p.vn p.n p.kids A w b rfl hky.1 hC hF hb h7
    by_cases h8 : p.op.toList = [111, 114]
    · exact right_8 d _ c p.op p.key p.vs p.vk p.vn p.n p.kids A w b rfl hky.1 hC hF hb h8
    exact right_9 d _ c p.op p.key p.vs p.vk p.vn p.n p.kids A w b rfl hky.1 hC hF hb h0 h1 h2 h3 h4 h5 h6 h7 h8
end Go.Proofs.Ytgpkihnihmbomaa.Pt
