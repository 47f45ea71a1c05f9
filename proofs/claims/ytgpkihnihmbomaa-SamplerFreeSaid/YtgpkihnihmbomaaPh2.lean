/- Does a policy hold of spans? policy.holds, walked. No conditions but bounds. -/
import Derived.Test.YtgpkihnihmbomaaPh1
namespace Go.Proofs.Ytgpkihnihmbomaa.Pt
open Go.RowKit Go.Proofs.YtgpkihnihmbomaaW.PrintWords Go.Proofs.YtgpkihnihmbomaaW.PrintLast
open Go.Proofs.Ytgpkihnihmbomaa.Ob Go.Proofs.Ytgpkihnihmbomaa.Two Go.Proofs.Ytgpkihnihmbomaa.Bx Go.Proofs.Ytgpkihnihmbomaa.XSs
set_option linter.unusedSimpArgs false
set_option linter.unusedVariables false
/-- Does it hold? -/
def hd : Nat → Pol → List S70 → Bool
  | 0, _, _ => false
  | d + 1, p, l => if p.op.toList = [97, 108, 108] then true else if p.op.toList = [101, 114, 114, 111, 114] then anys l (fun s => s.f6 == 2) else if p.op.toList = [115, 108, 111, 119] then anys l (fun s => decide (p.n ≤ tookS s))
    else if p.op.toList = [115, 104, 97, 114, 101] then (match l with | [] => false | s :: _ => shareok s.f0 (wrap64 p.n)) else if p.op.toList = [97, 116, 116, 114] then anys l (hitS p)
    else if p.op.toList = [110, 111, 116] then anyk p.kids (fun q => !hd d q l) else if p.op.toList = [97, 110, 100] then !anyk p.kids (fun q => !hd d q l) else if p.op.toList = [111, 114] then anyk p.kids (fun q => hd d q l) else false
set_option maxHeartbeats 8000000 in
set_option maxRecDepth 1000000 in
theorem lit62_w (d : Nat) (q : Pol) (cs : List Value) (B : Option Addr) (m e g : Nat) (w : World) (b : Bool) (hK : (kp 53 d).K w q cs) (hg : w.cell? ⟨g, 0, none⟩ = some (.slice B m e))
    (h53 : Aside0 (∀ W, Below w.heap.size w W → (kp 53 d).K W q cs → Calls Try.prog 53 #[.agg cs.toArray, .slice B m e] W fun e w' => e = .returned (.bool b) ∧ Below W.heap.size W w')) :
    Calls Try.prog 62 #[.agg cs.toArray, .pointer (some ⟨g, 0, none⟩)] w fun e w' => e = .returned (.bool (b)) ∧ Below w.heap.size w w' := by
  cases d with
  | zero => exact (kp_no hK).elim
  | succ d =>
    have hK0 := Aside0.mk hK
    obtain ⟨A6, c6, rfl, hc, hC⟩ := kp_open hK
    clear hK hC
    show Calls Try.prog 62 #[.agg #[.string q.op, .string q.key, .int .i64 q.vk, .int .i64 q.vn, .string q.vs, .int .u64 q.n, .slice A6 q.kids.length c6], .pointer (some ⟨g, 0, none⟩)] w _
    have hT := Aside0.mk ((Bx.start w).new [.string q.op, .string q.key, .int .i64 q.vk, .int .i64 q.vn, .string q.vs, .int .u64 q.n, .slice A6 q.kids.length c6] 53)
    have hKw := Aside0.mk ((kp 53 (d + 1)).K_below (below_alloc (Below.refl _ _) (.cells #[.string q.op, .string q.key, .int .i64 q.vk, .int .i64 q.vn, .string q.vs, .int .u64 q.n, .slice A6 q.kids.length c6] 53)) hK0.out)
    have hg' := cellB (below_alloc (Below.refl _ _) (.cells #[.string q.op, .string q.key, .int .i64 q.vk, .int .i64 q.vn, .string q.vs, .int .u64 q.n, .slice A6 q.kids.length c6] 53)) hg
    go_enter Try.func62, Try.ntmps62
    go_wp2_with (first
      | (refine wpList_load_at (by rfl) 53 _ rfl w.heap.size 0 rfl [.string q.op, .string q.key, .int .i64 q.vk, .int .i64 q.vn, .string q.vs, .int .u64 q.n, .slice A6 q.kids.length c6] _ (row_at0 (hT.out.row (by simp))) Try.underlying53 rfl (by kernel_rfl) ?_)
      | (go_at_call 53; refine (h53.out _ hT.out.b hKw.out).mono ?_; rintro e w1 ⟨rfl, hb1⟩; replace hT := Aside0.mk (hT.out.keep hb1); clear hb1))
    go_ret
    exact ⟨rfl, hT.out.b⟩
set_option maxHeartbeats 8000000 in
set_option maxRecDepth 1000000 in
theorem lit63_w (d : Nat) (q : Pol) (cs : List Value) (B : Option Addr) (m e g : Nat) (w : World) (b : Bool) (hK : (kp 53 d).K w q cs) (hg : w.cell? ⟨g, 0, none⟩ = some (.slice B m e))
    (h53 : Aside0 (∀ W, Below w.heap.size w W → (kp 53 d).K W q cs → Calls Try.prog 53 #[.agg cs.toArray, .slice B m e] W fun e w' => e = .returned (.bool b) ∧ Below W.heap.size W w')) :
    Calls Try.prog 63 #[.agg cs.toArray, .pointer (some ⟨g, 0, none⟩)] w fun e w' => e = .returned (.bool (!b)) ∧ Below w.heap.size w w' := by
  cases d with
  | zero => exact (kp_no hK).elim
  | succ d =>
    have hK0 := Aside0.mk hK
    obtain ⟨A6, c6, rfl, hc, hC⟩ := kp_open hK
    clear hK hC
    show Calls Try.prog 63 #[.agg #[.string q.op, .string q.key, .int .i64 q.vk, .int .i64 q.vn, .string q.vs, .int .u64 q.n, .slice A6 q.kids.length c6], .pointer (some ⟨g, 0, none⟩)] w _
    have hT := Aside0.mk ((Bx.start w).new [.string q.op, .string q.key, .int .i64 q.vk, .int .i64 q.vn, .string q.vs, .int .u64 q.n, .slice A6 q.kids.length c6] 53)
    have hKw := Aside0.mk ((kp 53 (d + 1)).K_below (below_alloc (Below.refl _ _) (.cells #[.string q.op, .string q.key, .int .i64 q.vk, .int .i64 q.vn, .string q.vs, .int .u64 q.n, .slice A6 q.kids.length c6] 53)) hK0.out)
    have hg' := cellB (below_alloc (Below.refl _ _) (.cells #[.string q.op, .string q.key, .int .i64 q.vk, .int .i64 q.vn, .string q.vs, .int .u64 q.n, .slice A6 q.kids.length c6] 53)) hg
    go_enter Try.func63, Try.ntmps63
    go_wp2_with (first
      | (refine wpList_load_at (by rfl) 53 _ rfl w.heap.size 0 rfl [.string q.op, .string q.key, .int .i64 q.vk, .int .i64 q.vn, .string q.vs, .int .u64 q.n, .slice A6 q.kids.length c6] _ (row_at0 (hT.out.row (by simp))) Try.underlying53 rfl (by kernel_rfl) ?_)
      | (go_at_call 53; refine (h53.out _ hT.out.b hKw.out).mono ?_; rintro e w1 ⟨rfl, hb1⟩; replace hT := Aside0.mk (hT.out.keep hb1); clear hb1))
    go_ret
    exact ⟨rfl, hT.out.b⟩
theorem add_zero'' (a : Addr) : a.add 0 = a := by
  unfold Addr.add; split <;> simp_all
set_option maxHeartbeats 16000000 in
set_option maxRecDepth 1000000 in
theorem holds_all (d n c m e : Nat) (p : Pol) (A B : Option Addr) (l : List S70) (w : World) (b : Bool) (hn : p.kids.length = n) (hC : (kp 53 d).C w A n p.kids) (hm : l.length = m) (hL : Kd.C k70 w B m l) (hl9 : ∀ s ∈ l, s.f9.length ≤ 1000)
    (hF : Aside0 (∀ q cs W, q ∈ p.kids → Kd.C k70 W B m l → (kp 53 d).K W q cs → Calls Try.prog 53 #[.agg cs.toArray, .slice B m e] W fun e w' => e = .returned (.bool (hd d q l)) ∧ Below W.heap.size W w')) (hb : hd (d + 1) p l = b) (hop : p.op.toList = [97, 108, 108]) :
    Calls Try.prog 53 #[.agg #[.string p.op, .string p.key, .int .i64 p.vk, .int .i64 p.vn, .string p.vs, .int .u64 p.n, .slice A n c], .slice B m e] w fun e w' => e = .returned (.bool b) ∧ Below w.heap.size w w' := by
  have hT1 := (Bx.start w).new [.string p.op, .string p.key, .int .i64 p.vk, .int .i64 p.vn, .string p.vs, .int .u64 p.n, .slice A n c] 53
  have e1 := size_alloc w (.cells #[.string p.op, .string p.key, .int .i64 p.vk, .int .i64 p.vn, .string p.vs, .int .u64 p.n, .slice A n c] 53)
  have hT := hT1.new [.slice B m e] 59
  rw [e1] at hT
  replace hT := Aside0.mk hT
  clear hT1 e1
  replace hC := Aside0.mk hC
  replace hL := Aside0.mk hL
  replace hl9 := Aside0.mk hl9
  unfold hd at hb
  rw [hop] at hb
  rw [if_pos rfl] at hb
  subst hb
  clear hF
  go_enter Try.func53, Try.ntmps53
  go_wp2
  go_ret
  exact ⟨rfl, hT.out.b⟩
set_option maxHeartbeats 16000000 in
set_option maxRecDepth 1000000 in
theorem holds_error (d n c m e : Nat) (p : Pol) (A B : Option Addr) (l : List S70) (w : World) (b : Bool) (hn : p.kids.length = n) (hC : (kp 53 d).C w A n p.kids) (hm : l.length = m) (hL : Kd.C k70 w B m l) (hl9 : ∀ s ∈ l, s.f9.length ≤ 1000)
    (hF : Aside0 (∀ q cs W, q ∈ p.kids → Kd.C k70 W B m l → (kp 53 d).K W q cs → Calls Try.prog 53 #[.agg cs.toArray, .slice B m e] W fun e w' => e = .returned (.bool (hd d q l)) ∧ Below W.heap.size W w')) (hb : hd (d + 1) p l = b) (hop : p.op.toList = [101, 114, 114, 111, 114]) :
    Calls Try.prog 53 #[.agg #[.string p.op, .string p.key, .int .i64 p.vk, .int .i64 p.vn, .string p.vs, .int .u64 p.n, .slice A n c], .slice B m e] w fun e w' => e = .returned (.bool b) ∧ Below w.heap.size w w' := by
  have hT1 := (Bx.start w).new [.string p.op, .string p.key, .int .i64 p.vk, .int .i64 p.vn, .string p.vs, .int .u64 p.n, .slice A n c] 53
  have e1 := size_alloc w (.cells #[.string p.op, .string p.key, .int .i64 p.vk, .int .i64 p.vn, .string p.vs, .int .u64 p.n, .slice A n c] 53)
  have hT := hT1.new [.slice B m e] 59
  rw [e1] at hT
  replace hT := Aside0.mk hT
  clear hT1 e1
  replace hC := Aside0.mk hC
  replace hL := Aside0.mk hL
  replace hl9 := Aside0.mk hl9
  unfold hd at hb
  rw [hop] at hb
  rw [if_neg (show ¬ ([101, 114, 114, 111, 114] : List UInt8) = [97, 108, 108] from by decide)] at hb
  rw [if_pos rfl] at hb
  replace hb := Aside0.mk hb
  clear hF
  go_enter Try.func53, Try.ntmps53
  go_wp2_with (go_at_call 64; refine (some65_w _ B m e l (fun s => s.f6 == 2) b hb.out hm (Kd.C_below hL.out hT.out.b) ⟨fun s A9 c9 W _ _ _ _ => failed_w s A9 c9 W⟩).mono ?_; rintro r w1 ⟨rfl, hb1⟩; replace hT := Aside0.mk (hT.out.keep hb1); clear hb1)
  go_ret
  exact ⟨rfl, hT.out.b⟩
set_option maxHeartbeats 16000000 in
set_option maxRecDepth 1000000 in
theorem holds_slow (d n c m e : Nat) (p : Pol) (A B : Option Addr) (l : List S70) (w : World) (b : Bool) (hn : p.kids.length = n) (hC : (kp 53 d).C w A n p.kids) (hm : l.length = m) (hL : Kd.C k70 w B m l) (hl9 : ∀ s ∈ l, s.f9.length ≤ 1000)
    (hF : Aside0 (∀ q cs W, q ∈ p.kids → Kd.C k70 W B m l → (kp 53 d).K W q cs → Calls Try.prog 53 #[.agg cs.toArray, .slice B m e] W fun e w' => e = .returned (.bool (hd d q l)) ∧ Below W.heap.size W w')) (hb : hd (d + 1) p l = b) (hop : p.op.toList = [115, 108, 111, 119]) :
    Calls Try.prog 53 #[.agg #[.string p.op, .string p.key, .int .i64 p.vk, .int .i64 p.vn, .string p.vs, .int .u64 p.n, .slice A n c], .slice B m e] w fun e w' => e = .returned (.bool b) ∧ Below w.heap.size w w' := by
  have hT1 := (Bx.start w).new [.string p.op, .string p.key, .int .i64 p.vk, .int .i64 p.vn, .string p.vs, .int .u64 p.n, .slice A n c] 53
  have e1 := size_alloc w (.cells #[.string p.op, .string p.key, .int .i64 p.vk, .int .i64 p.vn, .string p.vs, .int .u64 p.n, .slice A n c] 53)
  have hT := hT1.new [.slice B m e] 59
  rw [e1] at hT
  replace hT := Aside0.mk hT
  clear hT1 e1
  replace hC := Aside0.mk hC
  replace hL := Aside0.mk hL
  replace hl9 := Aside0.mk hl9
  unfold hd at hb
  rw [hop] at hb
  rw [if_neg (show ¬ ([115, 108, 111, 119] : List UInt8) = [97, 108, 108] from by decide)] at hb
  rw [if_neg (show ¬ ([115, 108, 111, 119] : List UInt8) = [101, 114, 114, 111, 114] from by decide)] at hb
  rw [if_pos rfl] at hb
  replace hb := Aside0.mk hb
  clear hF
  go_enter Try.func53, Try.ntmps53
  go_wp2_with (go_at_call 64; refine (some66_w _ B m e l (fun s => decide (p.n ≤ tookS s)) w.heap.size b hb.out hm (Kd.C_below hL.out hT.out.b) ⟨fun s A9 c9 W _ hbW _ _ => lit66_w s A9 c9 w.heap.size p.n W _ (cellB hbW ((hT.out.row (List.mem_cons_of_mem _ (List.mem_cons_self ..)) 5 _ rfl).1)) rfl⟩).mono ?_; rintro r w1 ⟨rfl, hb1⟩; replace hT := Aside0.mk (hT.out.keep hb1); clear hb1)
  go_ret
  exact ⟨rfl, hT.out.b⟩
set_option maxHeartbeats 16000000 in
set_option maxRecDepth 1000000 in
theorem holds_share (d n c m e : Nat) (p : Pol) (A B : Option Addr) (l : List S70) (w : World) (b : Bool) (hn : p.kids.length = n) (hC : (kp 53 d).C w A n p.kids) (hm : l.length = m) (hL : Kd.C k70 w B m l) (hl9 : ∀ s ∈ l, s.f9.length ≤ 1000)
    (hF : Aside0 (∀ q cs W, q ∈ p.kids → Kd.C k70 W B m l → (kp 53 d).K W q cs → Calls Try.prog 53 #[.agg cs.toArray, .slice B m e] W fun e w' => e = .returned (.bool (hd d q l)) ∧ Below W.heap.size W w')) (hb : hd (d + 1) p l = b) (hop : p.op.toList = [115, 104, 97, 114, 101]) :
    Calls Try.prog 53 #[.agg #[.string p.op, .string p.key, .int .i64 p.vk, .int .i64 p.vn, .string p.vs, .int .u64 p.n, .slice A n c], .slice B m e] w fun e w' => e = .returned (.bool b) ∧ Below w.heap.size w w' := by
  have hT1 := (Bx.start w).new [.string p.op, .string p.key, .int .i64 p.vk, .int .i64 p.vn, .string p.vs, .int .u64 p.n, .slice A n c] 53
  have e1 := size_alloc w (.cells #[.string p.op, .string p.key, .int .i64 p.vk, .int .i64 p.vn, .string p.vs, .int .u64 p.n, .slice A n c] 53)
  have hT := hT1.new [.slice B m e] 59
  rw [e1] at hT
  replace hT := Aside0.mk hT
  clear hT1 e1
  replace hC := Aside0.mk hC
  replace hL := Aside0.mk hL
  replace hl9 := Aside0.mk hl9
  unfold hd at hb
  rw [hop] at hb
  rw [if_neg (show ¬ ([115, 104, 97, 114, 101] : List UInt8) = [97, 108, 108] from by decide)] at hb
  rw [if_neg (show ¬ ([115, 104, 97, 114, 101] : List UInt8) = [101, 114, 114, 111, 114] from by decide)] at hb
  rw [if_neg (show ¬ ([115, 104, 97, 114, 101] : List UInt8) = [115, 108, 111, 119] from by decide)] at hb
  rw [if_pos rfl] at hb
  cases l with
  | nil =>
    obtain rfl : m = 0 := by simpa using hm.symm
    subst hb
    clear hF hC hL
    go_enter Try.func53, Try.ntmps53
    go_wp2
    have hS := hT.out.drew
    refine start_ (n := 14) (S := fun W => Bx w W [(w.heap.size + 1, [.slice B 0 e]), (w.heap.size, [.string p.op, .string p.key, .int .i64 p.vk, .int .i64 p.vn, .string p.vs, .int .u64 p.n, .slice A n c])]) (ds := []) #[false, false, false, false, false, false, false, false, false, false, false, false, false, false] (by kernel_rfl) rfl rfl hS (fun hHeld => ?_)
    clear hS
    refine take_ (i := 0) (N := some 24) (v := ?_) (a' := ?_) #[true, false, false, false, false, false, false, false, false, false, false, false, false, false] rfl rfl (by kernel_rfl) (fun _ _ _ h => h) (Or.inl ⟨by rfl, ?_⟩) hHeld ?_ ?_
    rotate_left
    · rintro w' h
      have hq := (h.row (g := w.heap.size + 1) (cs := [.slice B 0 e]) (by simp) 0 _ rfl).1
      go_simp
      with_reducible rfl
    rotate_left
    · simp only [Act.put, List.setIfInBounds_toArray, List.set_cons_zero, List.set_cons_succ, i64_w, i32_w]
      rfl
    refine pure_ (i := 1) (N := some 25) (v := ?_) (a' := ?_) #[true, true, false, false, false, false, false, false, false, false, false, false, false, false] rfl rfl (by kernel_rfl) (fun _ _ _ h => h) (Or.inl ⟨by rfl, ?_⟩) ?_ ?_
    rotate_left
    · intro w'
      go_simp
      with_reducible rfl
    rotate_left
    · simp only [Act.put, List.setIfInBounds_toArray, List.set_cons_zero, List.set_cons_succ, i64_w, i32_w]
      rfl
    refine pure_ (i := 2) (N := some 26) (v := ?_) (a' := ?_) #[true, true, true, false, false, false, false, false, false, false, false, false, false, false] rfl rfl (by kernel_rfl) (fun _ _ _ h => h) (Or.inl ⟨by rfl, ?_⟩) ?_ ?_
    rotate_left
    · intro w'
      go_simp
      with_reducible rfl
    rotate_left
    · simp only [Act.put, List.setIfInBounds_toArray, List.set_cons_zero, List.set_cons_succ, i64_w, i32_w]
      rfl
    refine pure_ (i := 3) (N := some 27) (v := ?_) (a' := ?_) #[true, true, true, true, false, false, false, false, false, false, false, false, false, false] rfl rfl (by kernel_rfl) (fun _ _ _ h => h) (Or.inl ⟨by rfl, ?_⟩) ?_ ?_
    rotate_left
    · intro w'
      go_simp
      with_reducible rfl
    rotate_left
    · simp only [Act.put, List.setIfInBounds_toArray, List.set_cons_zero, List.set_cons_succ, i64_w, i32_w]
      rfl
    refine pure_ (i := 4) (N := some 28) (v := undef) (a' := ?_) #[true, true, true, true, true, false, false, false, false, false, false, false, false, false] rfl rfl (by kernel_rfl) (fun _ _ _ h => h) (Or.inr ⟨by rfl, rfl⟩) ?_ ?_
    rotate_left
    · simp only [Act.put, List.setIfInBounds_toArray, List.set_cons_zero, List.set_cons_succ, i64_w, i32_w]
      rfl
    refine pure_ (i := 5) (N := some 29) (v := undef) (a' := ?_) #[true, true, true, true, true, true, false, false, false, false, false, false, false, false] rfl rfl (by kernel_rfl) (fun _ _ _ h => h) (Or.inr ⟨by rfl, rfl⟩) ?_ ?_
    rotate_left
    · simp only [Act.put, List.setIfInBounds_toArray, List.set_cons_zero, List.set_cons_succ, i64_w, i32_w]
      rfl
    refine pure_ (i := 6) (N := some 30) (v := undef) (a' := ?_) #[true, true, true, true, true, true, true, false, false, false, false, false, false, false] rfl rfl (by kernel_rfl) (fun _ _ _ h => h) (Or.inr ⟨by rfl, rfl⟩) ?_ ?_
    rotate_left
    · simp only [Act.put, List.setIfInBounds_toArray, List.set_cons_zero, List.set_cons_succ, i64_w, i32_w]
      rfl
    refine pure_ (i := 7) (N := some 31) (v := undef) (a' := ?_) #[true, true, true, true, true, true, true, true, false, false, false, false, false, false] rfl rfl (by kernel_rfl) (fun _ _ _ h => h) (Or.inr ⟨by rfl, rfl⟩) ?_ ?_
    rotate_left
    · simp only [Act.put, List.setIfInBounds_toArray, List.set_cons_zero, List.set_cons_succ, i64_w, i32_w]
      rfl
    refine pure_ (i := 8) (N := some 32) (v := undef) (a' := ?_) #[true, true, true, true, true, true, true, true, true, false, false, false, false, false] rfl rfl (by kernel_rfl) (fun _ _ _ h => h) (Or.inr ⟨by rfl, rfl⟩) ?_ ?_
    rotate_left
    · simp only [Act.put, List.setIfInBounds_toArray, List.set_cons_zero, List.set_cons_succ, i64_w, i32_w]
      rfl
    refine pure_ (i := 9) (N := some 33) (v := undef) (a' := ?_) #[true, true, true, true, true, true, true, true, true, true, false, false, false, false] rfl rfl (by kernel_rfl) (fun _ _ _ h => h) (Or.inr ⟨by rfl, rfl⟩) ?_ ?_
    rotate_left
    · simp only [Act.put, List.setIfInBounds_toArray, List.set_cons_zero, List.set_cons_succ, i64_w, i32_w]
      rfl
    refine pure_ (i := 10) (N := some 34) (v := undef) (a' := ?_) #[true, true, true, true, true, true, true, true, true, true, true, false, false, false] rfl rfl (by kernel_rfl) (fun _ _ _ h => h) (Or.inr ⟨by rfl, rfl⟩) ?_ ?_
    rotate_left
    · simp only [Act.put, List.setIfInBounds_toArray, List.set_cons_zero, List.set_cons_succ, i64_w, i32_w]
      rfl
    refine pure_ (i := 11) (N := some 35) (v := undef) (a' := ?_) #[true, true, true, true, true, true, true, true, true, true, true, true, false, false] rfl rfl (by kernel_rfl) (fun _ _ _ h => h) (Or.inr ⟨by rfl, rfl⟩) ?_ ?_
    rotate_left
    · simp only [Act.put, List.setIfInBounds_toArray, List.set_cons_zero, List.set_cons_succ, i64_w, i32_w]
      rfl
    refine pure_ (i := 12) (N := some 36) (v := ?_) (a' := ?_) #[true, true, true, true, true, true, true, true, true, true, true, true, true, false] rfl rfl (by kernel_rfl) (fun _ _ _ h => h) (Or.inl ⟨by rfl, ?_⟩) ?_ ?_
    rotate_left
    · intro w'
      go_simp
      with_reducible rfl
    rotate_left
    · simp only [Act.put, List.setIfInBounds_toArray, List.set_cons_zero, List.set_cons_succ, i64_w, i32_w]
      rfl
    refine pure_ (i := 13) (N := some 4) (v := ?_) (a' := ?_) #[true, true, true, true, true, true, true, true, true, true, true, true, true, true] rfl rfl (by kernel_rfl) (fun _ _ _ h => h) (Or.inl ⟨by rfl, ?_⟩) ?_ ?_
    rotate_left
    · intro w'
      go_simp
      with_reducible rfl
    rotate_left
    · simp only [Act.put, List.setIfInBounds_toArray, List.set_cons_zero, List.set_cons_succ, i64_w, i32_w]
      rfl
    refine done_ (by kernel_rfl) ?_
    go_wp2
    go_ret
    exact ⟨by first | rfl | simp, hHeld.b⟩
  | cons s r =>
    have hb2 : shareok s.f0 (wrap64 p.n) = b := hb
    replace hb := Aside0.mk hb2
    clear hb2 hF hC
    have hm1 : 0 < m := by rw [← hm]; simp
    have hm1I : (0 : Int) < (m : Int) := by omega
    have hm2 : ((m : Int) > 0) := by omega
    obtain ⟨ad, A9, c9, rfl, x0, _⟩ := at_T70 (Kd.C_below hL.out hT.out.b) (0 : Int) (by omega) (by exact hm1I)
    rw [show ((0 : Int).toNat * 10) = 0 from rfl, add_zero''] at x0
    have hx0 := x0
    rw [show (rd_T70 (s :: r) 0) = s from rfl] at hx0
    clear x0
    go_enter Try.func53, Try.ntmps53
    go_wp2
    have hS := (⟨hT.out.drew, hx0⟩ : (fun W => Bx w W [(w.heap.size + 1, [.slice (some ad) m e]), (w.heap.size, [.string p.op, .string p.key, .int .i64 p.vk, .int .i64 p.vn, .string p.vs, .int .u64 p.n, .slice A n c])] ∧ W.cell? ad = some (.int .u64 s.f0)) _)
    refine start_ (n := 14) (S := fun W => Bx w W [(w.heap.size + 1, [.slice (some ad) m e]), (w.heap.size, [.string p.op, .string p.key, .int .i64 p.vk, .int .i64 p.vn, .string p.vs, .int .u64 p.n, .slice A n c])] ∧ W.cell? ad = some (.int .u64 s.f0)) (ds := []) #[false, false, false, false, false, false, false, false, false, false, false, false, false, false] (by kernel_rfl) rfl rfl hS (fun hHeld => ?_)
    clear hS
    refine take_ (i := 0) (N := some 24) (v := ?_) (a' := ?_) #[true, false, false, false, false, false, false, false, false, false, false, false, false, false] rfl rfl (by kernel_rfl) (fun _ _ _ h => h) (Or.inl ⟨by rfl, ?_⟩) hHeld ?_ ?_
    rotate_left
    · rintro w' ⟨h, hx⟩
      have hq := (h.row (g := w.heap.size + 1) (cs := [.slice (some ad) m e]) (by simp) 0 _ rfl).1
      go_simp
      with_reducible rfl
    rotate_left
    · simp only [Act.put, List.setIfInBounds_toArray, List.set_cons_zero, List.set_cons_succ, i64_w, i32_w]
      rfl
    refine pure_ (i := 1) (N := some 25) (v := ?_) (a' := ?_) #[true, true, false, false, false, false, false, false, false, false, false, false, false, false] rfl rfl (by kernel_rfl) (fun _ _ _ h => h) (Or.inl ⟨by rfl, ?_⟩) ?_ ?_
    rotate_left
    · intro w'
      go_simp
      with_reducible rfl
    rotate_left
    · simp only [Act.put, List.setIfInBounds_toArray, List.set_cons_zero, List.set_cons_succ, i64_w, i32_w]
      rfl
    refine pure_ (i := 2) (N := some 26) (v := ?_) (a' := ?_) #[true, true, true, false, false, false, false, false, false, false, false, false, false, false] rfl rfl (by kernel_rfl) (fun _ _ _ h => h) (Or.inl ⟨by rfl, ?_⟩) ?_ ?_
    rotate_left
    · intro w'
      go_simp
      with_reducible rfl
    rotate_left
    · simp only [Act.put, List.setIfInBounds_toArray, List.set_cons_zero, List.set_cons_succ, i64_w, i32_w]
      rfl
    refine pure_ (i := 3) (N := some 27) (v := ?_) (a' := ?_) #[true, true, true, true, false, false, false, false, false, false, false, false, false, false] rfl rfl (by kernel_rfl) (fun _ _ _ h => h) (Or.inl ⟨by rfl, ?_⟩) ?_ ?_
    rotate_left
    · intro w'
      go_simp
      with_reducible rfl
    rotate_left
    · simp only [Act.put, List.setIfInBounds_toArray, List.set_cons_zero, List.set_cons_succ, i64_w, i32_w]
      rfl
    refine pure_ (i := 8) (N := some 32) (v := ?_) (a' := ?_) #[true, true, true, true, false, false, false, false, true, false, false, false, false, false] rfl rfl (by kernel_rfl) (fun _ _ _ h => h) (Or.inl ⟨by rfl, ?_⟩) ?_ ?_
    rotate_left
    · intro w'
      go_simp
      with_reducible rfl
    rotate_left
    · simp only [Act.put, List.setIfInBounds_toArray, List.set_cons_zero, List.set_cons_succ, i64_w, i32_w]
      rfl
    refine take_ (i := 4) (N := some 28) (v := ?_) (a' := ?_) #[true, true, true, true, true, false, false, false, true, false, false, false, false, false] rfl rfl (by kernel_rfl) (fun _ _ _ h => h) (Or.inl ⟨by rfl, ?_⟩) hHeld ?_ ?_
    rotate_left
    · rintro w' ⟨h, hx⟩
      have hq := (h.row (g := w.heap.size + 1) (cs := [.slice (some ad) m e]) (by simp) 0 _ rfl).1
      go_simp
      with_reducible rfl
    rotate_left
    · simp only [Act.put, List.setIfInBounds_toArray, List.set_cons_zero, List.set_cons_succ, i64_w, i32_w]
      rfl
    refine pure_ (i := 5) (N := some 29) (v := ?_) (a' := ?_) #[true, true, true, true, true, true, false, false, true, false, false, false, false, false] rfl rfl (by kernel_rfl) (fun _ _ _ h => h) (Or.inl ⟨by rfl, ?_⟩) ?_ ?_
    rotate_left
    · intro w'
      go_simp
      with_reducible rfl
    rotate_left
    · simp only [Act.put, List.setIfInBounds_toArray, List.set_cons_zero, List.set_cons_succ, i64_w, i32_w]
      rfl
    refine pure_ (i := 6) (N := some 30) (v := ?_) (a' := ?_) #[true, true, true, true, true, true, true, false, true, false, false, false, false, false] rfl rfl (by kernel_rfl) (fun _ _ _ h => h) (Or.inl ⟨by rfl, ?_⟩) ?_ ?_
    rotate_left
    · intro w'
      go_simp
      with_reducible rfl
    rotate_left
    · simp only [Act.put, List.setIfInBounds_toArray, List.set_cons_zero, List.set_cons_succ, i64_w, i32_w]
      rfl
    refine take_ (i := 7) (N := some 31) (v := ?_) (a' := ?_) #[true, true, true, true, true, true, true, true, true, false, false, false, false, false] rfl rfl (by kernel_rfl) (fun _ _ _ h => h) (Or.inl ⟨by rfl, ?_⟩) hHeld ?_ ?_
    rotate_left
    · rintro w' ⟨h, hx⟩
      go_simp
      with_reducible rfl
    rotate_left
    · simp only [Act.put, List.setIfInBounds_toArray, List.set_cons_zero, List.set_cons_succ, i64_w, i32_w]
      rfl
    refine take_ (i := 9) (N := some 33) (v := ?_) (a' := ?_) #[true, true, true, true, true, true, true, true, true, true, false, false, false, false] rfl rfl (by kernel_rfl) (fun _ _ _ h => h) (Or.inl ⟨by rfl, ?_⟩) hHeld ?_ ?_
    rotate_left
    · rintro w' ⟨h, hx⟩
      have hq := (h.row (g := w.heap.size) (cs := [.string p.op, .string p.key, .int .i64 p.vk, .int .i64 p.vn, .string p.vs, .int .u64 p.n, .slice A n c]) (by simp) 5 _ rfl).1
      go_simp
      with_reducible rfl
    rotate_left
    · simp only [Act.put, List.setIfInBounds_toArray, List.set_cons_zero, List.set_cons_succ, i64_w, i32_w]
      rfl
    refine pure_ (i := 10) (N := some 34) (v := ?_) (a' := ?_) #[true, true, true, true, true, true, true, true, true, true, true, false, false, false] rfl rfl (by kernel_rfl) (fun _ _ _ h => h) (Or.inl ⟨by rfl, ?_⟩) ?_ ?_
    rotate_left
    · intro w'
      go_simp
      with_reducible rfl
    rotate_left
    · simp only [Act.put, List.setIfInBounds_toArray, List.set_cons_zero, List.set_cons_succ, i64_w, i32_w]
      rfl
    refine one_ (i := 11) (N := some 35) #[true, true, true, true, true, true, true, true, true, true, true, true, false, false] rfl rfl (by kernel_rfl) (by decide) (fun K hK => ?_)
    refine goes_ Try.func68 (by kernel_rfl) rfl #[.int .u64 s.f0, .int .i64 (wrap64 p.n)] (by rfl) rfl rfl (by (try simp only [List.map_toArray, List.map_cons, List.map_nil]); first | done | rfl) ?_
    refine (share_w s.f0 (wrap64 p.n) _ b hb.out).mono ?_
    rintro e7 w7 ⟨rfl, hb7⟩
    have hH := Aside0.mk (show Bx w w7 [(w.heap.size + 1, [.slice (some ad) m e]), (w.heap.size, [.string p.op, .string p.key, .int .i64 p.vk, .int .i64 p.vn, .string p.vs, .int .u64 p.n, .slice A n c])] ∧ w7.cell? ad = some (.int .u64 s.f0) from ⟨hHeld.1.keep hb7, cellB hb7 hHeld.2⟩)
    clear hb7
    refine ⟨_, rfl, ?_⟩
    refine hK.out _ _ (hH.out) (fun hHeld => ?_)
    clear hK K
    refine norm_ (a' := ?_) ?_ ?_
    rotate_left
    · show Act.put _ (some 35) _ = _
      simp only [Act.put, List.setIfInBounds_toArray, List.set_cons_zero, List.set_cons_succ, i64_w, i32_w]
      rfl
    refine pure_ (i := 12) (N := some 36) (v := ?_) (a' := ?_) #[true, true, true, true, true, true, true, true, true, true, true, true, true, false] rfl rfl (by kernel_rfl) (fun _ _ _ h => h) (Or.inl ⟨by rfl, ?_⟩) ?_ ?_
    rotate_left
    · intro w'
      go_simp
      with_reducible rfl
    rotate_left
    · simp only [Act.put, List.setIfInBounds_toArray, List.set_cons_zero, List.set_cons_succ, i64_w, i32_w]
      rfl
    refine pure_ (i := 13) (N := some 4) (v := ?_) (a' := ?_) #[true, true, true, true, true, true, true, true, true, true, true, true, true, true] rfl rfl (by kernel_rfl) (fun _ _ _ h => h) (Or.inl ⟨by rfl, ?_⟩) ?_ ?_
    rotate_left
    · intro w'
      go_simp
      with_reducible rfl
    rotate_left
    · simp only [Act.put, List.setIfInBounds_toArray, List.set_cons_zero, List.set_cons_succ, i64_w, i32_w]
      rfl
    refine done_ (by kernel_rfl) ?_
    go_wp2
    go_ret
    exact ⟨by first | rfl | simp, hHeld.1.b⟩
set_option maxHeartbeats 16000000 in
set_option maxRecDepth 1000000 in
theorem holds_attr (d n c m e : Nat) (p : Pol) (A B : Option Addr) (l : List S70) (w : World) (b : Bool) (hn : p.kids.length = n) (hC : (kp 53 d).C w A n p.kids) (hm : l.length = m) (hL : Kd.C k70 w B m l) (hl9 : ∀ s ∈ l, s.f9.length ≤ 1000)
    (hF : Aside0 (∀ q cs W, q ∈ p.kids → Kd.C k70 W B m l → (kp 53 d).K W q cs → Calls Try.prog 53 #[.agg cs.toArray, .slice B m e] W fun e w' => e = .returned (.bool (hd d q l)) ∧ Below W.heap.size W w')) (hb : hd (d + 1) p l = b) (hop : p.op.toList = [97, 116, 116, 114]) :
    Calls Try.prog 53 #[.agg #[.string p.op, .string p.key, .int .i64 p.vk, .int .i64 p.vn, .string p.vs, .int .u64 p.n, .slice A n c], .slice B m e] w fun e w' => e = .returned (.bool b) ∧ Below w.heap.size w w' := by
  have hT1 := (Bx.start w).new [.string p.op, .string p.key, .int .i64 p.vk, .int .i64 p.vn, .string p.vs, .int .u64 p.n, .slice A n c] 53
  have e1 := size_alloc w (.cells #[.string p.op, .string p.key, .int .i64 p.vk, .int .i64 p.vn, .string p.vs, .int .u64 p.n, .slice A n c] 53)
  have hT := hT1.new [.slice B m e] 59
  rw [e1] at hT
  replace hT := Aside0.mk hT
  clear hT1 e1
  replace hC := Aside0.mk hC
  replace hL := Aside0.mk hL
  replace hl9 := Aside0.mk hl9
  unfold hd at hb
  rw [hop] at hb
  rw [if_neg (show ¬ ([97, 116, 116, 114] : List UInt8) = [97, 108, 108] from by decide)] at hb
  rw [if_neg (show ¬ ([97, 116, 116, 114] : List UInt8) = [101, 114, 114, 111, 114] from by decide)] at hb
  rw [if_neg (show ¬ ([97, 116, 116, 114] : List UInt8) = [115, 108, 111, 119] from by decide)] at hb
  rw [if_neg (show ¬ ([97, 116, 116, 114] : List UInt8) = [115, 104, 97, 114, 101] from by decide)] at hb
  rw [if_pos rfl] at hb
  replace hb := Aside0.mk hb
  clear hF
  go_enter Try.func53, Try.ntmps53
  go_wp2_with (go_at_call 64; refine (some69_w _ B m e l (hitS p) w.heap.size b hb.out hm (Kd.C_below hL.out hT.out.b) ⟨fun s A9 c9 W hs hbW hC9 _ => lit69_w s A9 c9 w.heap.size p A n c W _ ((hT.out.row (List.mem_cons_of_mem _ (List.mem_cons_self ..))).only (below_only0 hbW) id) hC9 (hl9.out s hs) rfl⟩).mono ?_; rintro r w1 ⟨rfl, hb1⟩; replace hT := Aside0.mk (hT.out.keep hb1); clear hb1)
  go_ret
  exact ⟨rfl, hT.out.b⟩
set_option maxHeartbeats 16000000 in
set_option maxRecDepth 1000000 in
theorem holds_not (d n c m e : Nat) (p : Pol) (A B : Option Addr) (l : List S70) (w : World) (b : Bool) (hn : p.kids.length = n) (hC : (kp 53 d).C w A n p.kids) (hm : l.length = m) (hL : Kd.C k70 w B m l) (hl9 : ∀ s ∈ l, s.f9.length ≤ 1000)
    (hF : Aside0 (∀ q cs W, q ∈ p.kids → Kd.C k70 W B m l → (kp 53 d).K W q cs → Calls Try.prog 53 #[.agg cs.toArray, .slice B m e] W fun e w' => e = .returned (.bool (hd d q l)) ∧ Below W.heap.size W w')) (hb : hd (d + 1) p l = b) (hop : p.op.toList = [110, 111, 116]) :
    Calls Try.prog 53 #[.agg #[.string p.op, .string p.key, .int .i64 p.vk, .int .i64 p.vn, .string p.vs, .int .u64 p.n, .slice A n c], .slice B m e] w fun e w' => e = .returned (.bool b) ∧ Below w.heap.size w w' := by
  have hT1 := (Bx.start w).new [.string p.op, .string p.key, .int .i64 p.vk, .int .i64 p.vn, .string p.vs, .int .u64 p.n, .slice A n c] 53
  have e1 := size_alloc w (.cells #[.string p.op, .string p.key, .int .i64 p.vk, .int .i64 p.vn, .string p.vs, .int .u64 p.n, .slice A n c] 53)
  have hT := hT1.new [.slice B m e] 59
  rw [e1] at hT
  replace hT := Aside0.mk hT
  clear hT1 e1
  replace hC := Aside0.mk hC
  replace hL := Aside0.mk hL
  replace hl9 := Aside0.mk hl9
  unfold hd at hb
  rw [hop] at hb
  rw [if_neg (show ¬ ([110, 111, 116] : List UInt8) = [97, 108, 108] from by decide)] at hb
  rw [if_neg (show ¬ ([110, 111, 116] : List UInt8) = [101, 114, 114, 111, 114] from by decide)] at hb
  rw [if_neg (show ¬ ([110, 111, 116] : List UInt8) = [115, 108, 111, 119] from by decide)] at hb
  rw [if_neg (show ¬ ([110, 111, 116] : List UInt8) = [115, 104, 97, 114, 101] from by decide)] at hb
  rw [if_neg (show ¬ ([110, 111, 116] : List UInt8) = [97, 116, 116, 114] from by decide)] at hb
  rw [if_pos rfl] at hb
  obtain ⟨a, ha⟩ : ∃ a, anyk p.kids (fun q => !hd d q l) = a := ⟨_, rfl⟩
  rw [ha] at hb
  replace ha := Aside0.mk ha
  subst hb
  replace hn := Aside0.mk hn
  replace hm := Aside0.mk hm
  go_enter Try.func53, Try.ntmps53
  go_wp2
  have hS := hT.out.drew
  refine start_ (n := 9) (S := fun W => Bx w W [(w.heap.size + 1, [.slice B m e]), (w.heap.size, [.string p.op, .string p.key, .int .i64 p.vk, .int .i64 p.vn, .string p.vs, .int .u64 p.n, .slice A n c])]) (ds := []) #[false, false, false, false, false, false, false, false, false] (by kernel_rfl) rfl rfl hS (fun hHeld => ?_)
  clear hS
  refine pure_ (i := 0) (N := some 45) (v := ?_) (a' := ?_) #[true, false, false, false, false, false, false, false, false] rfl rfl (by kernel_rfl) (fun _ _ _ h => h) (Or.inl ⟨by rfl, ?_⟩) ?_ ?_
  rotate_left
  · intro w'
    go_simp
    with_reducible rfl
  rotate_left
  · simp only [Act.put, List.setIfInBounds_toArray, List.set_cons_zero, List.set_cons_succ, i64_w, i32_w]
    rfl
  refine pure_ (i := 2) (N := some 47) (v := ?_) (a' := ?_) #[true, false, true, false, false, false, false, false, false] rfl rfl (by kernel_rfl) (fun _ _ _ h => h) (Or.inl ⟨by rfl, ?_⟩) ?_ ?_
  rotate_left
  · intro w'
    go_simp
    with_reducible rfl
  rotate_left
  · simp only [Act.put, List.setIfInBounds_toArray, List.set_cons_zero, List.set_cons_succ, i64_w, i32_w]
    rfl
  refine pure_ (i := 4) (N := some 49) (v := ?_) (a' := ?_) #[true, false, true, false, true, false, false, false, false] rfl rfl (by kernel_rfl) (fun _ _ _ h => h) (Or.inl ⟨by rfl, ?_⟩) ?_ ?_
  rotate_left
  · intro w'
    go_simp
    with_reducible rfl
  rotate_left
  · simp only [Act.put, List.setIfInBounds_toArray, List.set_cons_zero, List.set_cons_succ, i64_w, i32_w]
    rfl
  refine take_ (i := 1) (N := some 46) (v := ?_) (a' := ?_) #[true, true, true, false, true, false, false, false, false] rfl rfl (by kernel_rfl) (fun _ _ _ h => h) (Or.inl ⟨by rfl, ?_⟩) hHeld ?_ ?_
  rotate_left
  · rintro w' h
    have hq := (h.row (g := w.heap.size) (cs := [.string p.op, .string p.key, .int .i64 p.vk, .int .i64 p.vn, .string p.vs, .int .u64 p.n, .slice A n c]) (by simp) 6 _ rfl).1
    go_simp
    with_reducible rfl
  rotate_left
  · simp only [Act.put, List.setIfInBounds_toArray, List.set_cons_zero, List.set_cons_succ, i64_w, i32_w]
    rfl
  refine take_ (i := 5) (N := some 50) (v := ?_) (a' := ?_) #[true, true, true, false, true, true, false, false, false] rfl rfl (by kernel_rfl) (fun _ _ _ h => h) (Or.inl ⟨by rfl, ?_⟩) hHeld ?_ ?_
  rotate_left
  · rintro w' h
    have hq := (h.row (g := w.heap.size) (cs := [.string p.op, .string p.key, .int .i64 p.vk, .int .i64 p.vn, .string p.vs, .int .u64 p.n, .slice A n c]) (by simp) 0 _ rfl).1
    go_simp
    with_reducible rfl
  rotate_left
  · simp only [Act.put, List.setIfInBounds_toArray, List.set_cons_zero, List.set_cons_succ, i64_w, i32_w]
    rfl
  refine pure_ (i := 6) (N := some 51) (v := ?_) (a' := ?_) #[true, true, true, false, true, true, true, false, false] rfl rfl (by kernel_rfl) (fun _ _ _ h => h) (Or.inl ⟨by rfl, ?_⟩) ?_ ?_
  rotate_left
  · intro w'
    go_simp
    with_reducible rfl
  rotate_left
  · simp only [Act.put, List.setIfInBounds_toArray, List.set_cons_zero, List.set_cons_succ, i64_w, i32_w]
    rfl
  refine one_ (i := 3) (N := some 48) #[true, true, true, true, true, true, true, false, false] rfl rfl (by kernel_rfl) (by decide) (fun K hK => ?_)
  refine goes_ Try.func71 (by kernel_rfl) rfl #[.slice A n c, .func (.func 63) #[] #[.pointer (some ⟨w.heap.size + 1, 0, none⟩)]] (by rfl) rfl rfl (by (try simp only [List.map_toArray, List.map_cons, List.map_nil]); first | done | rfl) ?_
  refine (any63_w _ A n c d p.kids (fun q => !hd d q l) (w.heap.size + 1) a ha.out hn.out (Kd.C_below hC.out hHeld.b) ⟨fun q cs W hq hbW hK => lit63_w d q cs B m e (w.heap.size + 1) W _ hK (cellB hbW ((hHeld.row (List.mem_cons_self ..) 0 _ rfl).1)) ⟨fun W' hbW' hK' => hF.out q cs W' hq (Kd.C_below hL.out (hHeld.b.trans ((hbW.mono hHeld.b.size).trans (hbW'.mono (Nat.le_trans hHeld.b.size hbW.size))))) hK'⟩⟩).mono ?_
  rintro e7 w7 ⟨rfl, hb7⟩
  have hH := Aside0.mk (hHeld.keep hb7)
  clear hb7
  refine ⟨_, rfl, ?_⟩
  refine hK.out _ _ (hH.out) (fun hHeld => ?_)
  clear hK K
  refine norm_ (a' := ?_) ?_ ?_
  rotate_left
  · show Act.put _ (some 48) _ = _
    simp only [Act.put, List.setIfInBounds_toArray, List.set_cons_zero, List.set_cons_succ, i64_w, i32_w]
    rfl
  refine pure_ (i := 7) (N := some 52) (v := ?_) (a' := ?_) #[true, true, true, true, true, true, true, true, false] rfl rfl (by kernel_rfl) (fun _ _ _ h => h) (Or.inl ⟨by rfl, ?_⟩) ?_ ?_
  rotate_left
  · intro w'
    go_simp
    with_reducible rfl
  rotate_left
  · simp only [Act.put, List.setIfInBounds_toArray, List.set_cons_zero, List.set_cons_succ, i64_w, i32_w]
    rfl
  refine pure_ (i := 8) (N := some 4) (v := ?_) (a' := ?_) #[true, true, true, true, true, true, true, true, true] rfl rfl (by kernel_rfl) (fun _ _ _ h => h) (Or.inl ⟨by rfl, ?_⟩) ?_ ?_
  rotate_left
  · intro w'
    go_simp
    with_reducible rfl
  rotate_left
  · simp only [Act.put, List.setIfInBounds_toArray, List.set_cons_zero, List.set_cons_succ, i64_w, i32_w]
    rfl
  refine done_ (by kernel_rfl) ?_
  go_wp2
  go_ret
  exact ⟨by first | rfl | (cases a <;> rfl) | (cases a <;> simp), hHeld.b⟩
set_option maxHeartbeats 16000000 in
set_option maxRecDepth 1000000 in
theorem holds_and (d n c m e : Nat) (p : Pol) (A B : Option Addr) (l : List S70) (w : World) (b : Bool) (hn : p.kids.length = n) (hC : (kp 53 d).C w A n p.kids) (hm : l.length = m) (hL : Kd.C k70 w B m l) (hl9 : ∀ s ∈ l, s.f9.length ≤ 1000)
    (hF : Aside0 (∀ q cs W, q ∈ p.kids → Kd.C k70 W B m l → (kp 53 d).K W q cs → Calls Try.prog 53 #[.agg cs.toArray, .slice B m e] W fun e w' => e = .returned (.bool (hd d q l)) ∧ Below W.heap.size W w')) (hb : hd (d + 1) p l = b) (hop : p.op.toList = [97, 110, 100]) :
    Calls Try.prog 53 #[.agg #[.string p.op, .string p.key, .int .i64 p.vk, .int .i64 p.vn, .string p.vs, .int .u64 p.n, .slice A n c], .slice B m e] w fun e w' => e = .returned (.bool b) ∧ Below w.heap.size w w' := by
  have hT1 := (Bx.start w).new [.string p.op, .string p.key, .int .i64 p.vk, .int .i64 p.vn, .string p.vs, .int .u64 p.n, .slice A n c] 53
  have e1 := size_alloc w (.cells #[.string p.op, .string p.key, .int .i64 p.vk, .int .i64 p.vn, .string p.vs, .int .u64 p.n, .slice A n c] 53)
  have hT := hT1.new [.slice B m e] 59
  rw [e1] at hT
  replace hT := Aside0.mk hT
  clear hT1 e1
  replace hC := Aside0.mk hC
  replace hL := Aside0.mk hL
  replace hl9 := Aside0.mk hl9
  unfold hd at hb
  rw [hop] at hb
  rw [if_neg (show ¬ ([97, 110, 100] : List UInt8) = [97, 108, 108] from by decide)] at hb
  rw [if_neg (show ¬ ([97, 110, 100] : List UInt8) = [101, 114, 114, 111, 114] from by decide)] at hb
  rw [if_neg (show ¬ ([97, 110, 100] : List UInt8) = [115, 108, 111, 119] from by decide)] at hb
  rw [if_neg (show ¬ ([97, 110, 100] : List UInt8) = [115, 104, 97, 114, 101] from by decide)] at hb
  rw [if_neg (show ¬ ([97, 110, 100] : List UInt8) = [97, 116, 116, 114] from by decide)] at hb
  rw [if_neg (show ¬ ([97, 110, 100] : List UInt8) = [110, 111, 116] from by decide)] at hb
  rw [if_pos rfl] at hb
  obtain ⟨a, ha⟩ : ∃ a, anyk p.kids (fun q => !hd d q l) = a := ⟨_, rfl⟩
  rw [ha] at hb
  replace ha := Aside0.mk ha
  subst hb
  replace hn := Aside0.mk hn
  replace hm := Aside0.mk hm
  go_enter Try.func53, Try.ntmps53
  go_wp2
  have hS := hT.out.drew
  refine start_ (n := 9) (S := fun W => Bx w W [(w.heap.size + 1, [.slice B m e]), (w.heap.size, [.string p.op, .string p.key, .int .i64 p.vk, .int .i64 p.vn, .string p.vs, .int .u64 p.n, .slice A n c])]) (ds := []) #[false, false, false, false, false, false, false, false, false] (by kernel_rfl) rfl rfl hS (fun hHeld => ?_)
  clear hS
  refine pure_ (i := 0) (N := some 45) (v := ?_) (a' := ?_) #[true, false, false, false, false, false, false, false, false] rfl rfl (by kernel_rfl) (fun _ _ _ h => h) (Or.inl ⟨by rfl, ?_⟩) ?_ ?_
  rotate_left
  · intro w'
    go_simp
    with_reducible rfl
  rotate_left
  · simp only [Act.put, List.setIfInBounds_toArray, List.set_cons_zero, List.set_cons_succ, i64_w, i32_w]
    rfl
  refine pure_ (i := 2) (N := some 47) (v := ?_) (a' := ?_) #[true, false, true, false, false, false, false, false, false] rfl rfl (by kernel_rfl) (fun _ _ _ h => h) (Or.inl ⟨by rfl, ?_⟩) ?_ ?_
  rotate_left
  · intro w'
    go_simp
    with_reducible rfl
  rotate_left
  · simp only [Act.put, List.setIfInBounds_toArray, List.set_cons_zero, List.set_cons_succ, i64_w, i32_w]
    rfl
  refine pure_ (i := 4) (N := some 49) (v := ?_) (a' := ?_) #[true, false, true, false, true, false, false, false, false] rfl rfl (by kernel_rfl) (fun _ _ _ h => h) (Or.inl ⟨by rfl, ?_⟩) ?_ ?_
  rotate_left
  · intro w'
    go_simp
    with_reducible rfl
  rotate_left
  · simp only [Act.put, List.setIfInBounds_toArray, List.set_cons_zero, List.set_cons_succ, i64_w, i32_w]
    rfl
  refine take_ (i := 1) (N := some 46) (v := ?_) (a' := ?_) #[true, true, true, false, true, false, false, false, false] rfl rfl (by kernel_rfl) (fun _ _ _ h => h) (Or.inl ⟨by rfl, ?_⟩) hHeld ?_ ?_
  rotate_left
  · rintro w' h
    have hq := (h.row (g := w.heap.size) (cs := [.string p.op, .string p.key, .int .i64 p.vk, .int .i64 p.vn, .string p.vs, .int .u64 p.n, .slice A n c]) (by simp) 6 _ rfl).1
    go_simp
    with_reducible rfl
  rotate_left
  · simp only [Act.put, List.setIfInBounds_toArray, List.set_cons_zero, List.set_cons_succ, i64_w, i32_w]
    rfl
  refine take_ (i := 5) (N := some 50) (v := ?_) (a' := ?_) #[true, true, true, false, true, true, false, false, false] rfl rfl (by kernel_rfl) (fun _ _ _ h => h) (Or.inl ⟨by rfl, ?_⟩) hHeld ?_ ?_
  rotate_left
  · rintro w' h
    have hq := (h.row (g := w.heap.size) (cs := [.string p.op, .string p.key, .int .i64 p.vk, .int .i64 p.vn, .string p.vs, .int .u64 p.n, .slice A n c]) (by simp) 0 _ rfl).1
    go_simp
    with_reducible rfl
  rotate_left
  · simp only [Act.put, List.setIfInBounds_toArray, List.set_cons_zero, List.set_cons_succ, i64_w, i32_w]
    rfl
  refine pure_ (i := 6) (N := some 51) (v := ?_) (a' := ?_) #[true, true, true, false, true, true, true, false, false] rfl rfl (by kernel_rfl) (fun _ _ _ h => h) (Or.inl ⟨by rfl, ?_⟩) ?_ ?_
  rotate_left
  · intro w'
    go_simp
    with_reducible rfl
  rotate_left
  · simp only [Act.put, List.setIfInBounds_toArray, List.set_cons_zero, List.set_cons_succ, i64_w, i32_w]
    rfl
  refine one_ (i := 3) (N := some 48) #[true, true, true, true, true, true, true, false, false] rfl rfl (by kernel_rfl) (by decide) (fun K hK => ?_)
  refine goes_ Try.func71 (by kernel_rfl) rfl #[.slice A n c, .func (.func 63) #[] #[.pointer (some ⟨w.heap.size + 1, 0, none⟩)]] (by rfl) rfl rfl (by (try simp only [List.map_toArray, List.map_cons, List.map_nil]); first | done | rfl) ?_
  refine (any63_w _ A n c d p.kids (fun q => !hd d q l) (w.heap.size + 1) a ha.out hn.out (Kd.C_below hC.out hHeld.b) ⟨fun q cs W hq hbW hK => lit63_w d q cs B m e (w.heap.size + 1) W _ hK (cellB hbW ((hHeld.row (List.mem_cons_self ..) 0 _ rfl).1)) ⟨fun W' hbW' hK' => hF.out q cs W' hq (Kd.C_below hL.out (hHeld.b.trans ((hbW.mono hHeld.b.size).trans (hbW'.mono (Nat.le_trans hHeld.b.size hbW.size))))) hK'⟩⟩).mono ?_
  rintro e7 w7 ⟨rfl, hb7⟩
  have hH := Aside0.mk (hHeld.keep hb7)
  clear hb7
  refine ⟨_, rfl, ?_⟩
  refine hK.out _ _ (hH.out) (fun hHeld => ?_)
  clear hK K
  refine norm_ (a' := ?_) ?_ ?_
  rotate_left
  · show Act.put _ (some 48) _ = _
    simp only [Act.put, List.setIfInBounds_toArray, List.set_cons_zero, List.set_cons_succ, i64_w, i32_w]
    rfl
  refine pure_ (i := 7) (N := some 52) (v := ?_) (a' := ?_) #[true, true, true, true, true, true, true, true, false] rfl rfl (by kernel_rfl) (fun _ _ _ h => h) (Or.inl ⟨by rfl, ?_⟩) ?_ ?_
  rotate_left
  · intro w'
    go_simp
    with_reducible rfl
  rotate_left
  · simp only [Act.put, List.setIfInBounds_toArray, List.set_cons_zero, List.set_cons_succ, i64_w, i32_w]
    rfl
  refine pure_ (i := 8) (N := some 4) (v := ?_) (a' := ?_) #[true, true, true, true, true, true, true, true, true] rfl rfl (by kernel_rfl) (fun _ _ _ h => h) (Or.inl ⟨by rfl, ?_⟩) ?_ ?_
  rotate_left
  · intro w'
    go_simp
    with_reducible rfl
  rotate_left
  · simp only [Act.put, List.setIfInBounds_toArray, List.set_cons_zero, List.set_cons_succ, i64_w, i32_w]
    rfl
  refine done_ (by kernel_rfl) ?_
  go_wp2
  go_ret
  exact ⟨by first | rfl | (cases a <;> rfl) | (cases a <;> simp), hHeld.b⟩
set_option maxHeartbeats 16000000 in
set_option maxRecDepth 1000000 in
theorem holds_or (d n c m e : Nat) (p : Pol) (A B : Option Addr) (l : List S70) (w : World) (b : Bool) (hn : p.kids.length = n) (hC : (kp 53 d).C w A n p.kids) (hm : l.length = m) (hL : Kd.C k70 w B m l) (hl9 : ∀ s ∈ l, s.f9.length ≤ 1000)
    (hF : Aside0 (∀ q cs W, q ∈ p.kids → Kd.C k70 W B m l → (kp 53 d).K W q cs → Calls Try.prog 53 #[.agg cs.toArray, .slice B m e] W fun e w' => e = .returned (.bool (hd d q l)) ∧ Below W.heap.size W w')) (hb : hd (d + 1) p l = b) (hop : p.op.toList = [111, 114]) :
    Calls Try.prog 53 #[.agg #[.string p.op, .string p.key, .int .i64 p.vk, .int .i64 p.vn, .string p.vs, .int .u64 p.n, .slice A n c], .slice B m e] w fun e w' => e = .returned (.bool b) ∧ Below w.heap.size w w' := by
  have hT1 := (Bx.start w).new [.string p.op, .string p.key, .int .i64 p.vk, .int .i64 p.vn, .string p.vs, .int .u64 p.n, .slice A n c] 53
  have e1 := size_alloc w (.cells #[.string p.op, .string p.key, .int .i64 p.vk, .int .i64 p.vn, .string p.vs, .int .u64 p.n, .slice A n c] 53)
  have hT := hT1.new [.slice B m e] 59
  rw [e1] at hT
  replace hT := Aside0.mk hT
  clear hT1 e1
  replace hC := Aside0.mk hC
  replace hL := Aside0.mk hL
  replace hl9 := Aside0.mk hl9
  unfold hd at hb
  rw [hop] at hb
  rw [if_neg (show ¬ ([111, 114] : List UInt8) = [97, 108, 108] from by decide)] at hb
  rw [if_neg (show ¬ ([111, 114] : List UInt8) = [101, 114, 114, 111, 114] from by decide)] at hb
  rw [if_neg (show ¬ ([111, 114] : List UInt8) = [115, 108, 111, 119] from by decide)] at hb
  rw [if_neg (show ¬ ([111, 114] : List UInt8) = [115, 104, 97, 114, 101] from by decide)] at hb
  rw [if_neg (show ¬ ([111, 114] : List UInt8) = [97, 116, 116, 114] from by decide)] at hb
  rw [if_neg (show ¬ ([111, 114] : List UInt8) = [110, 111, 116] from by decide)] at hb
  rw [if_neg (show ¬ ([111, 114] : List UInt8) = [97, 110, 100] from by decide)] at hb
  rw [if_pos rfl] at hb
  replace hb := Aside0.mk hb
  go_enter Try.func53, Try.ntmps53
  go_wp2_with (go_at_call 71; refine (any62_w _ A n c d p.kids (fun q => hd d q l) (w.heap.size + 1) b hb.out hn (Kd.C_below hC.out hT.out.b) ⟨fun q cs W hq hbW hK => lit62_w d q cs B m e (w.heap.size + 1) W _ hK (cellB hbW ((hT.out.row (List.mem_cons_self ..) 0 _ rfl).1)) ⟨fun W' hbW' hK' => hF.out q cs W' hq (Kd.C_below hL.out (hT.out.b.trans ((hbW.mono hT.out.b.size).trans (hbW'.mono (Nat.le_trans hT.out.b.size hbW.size))))) hK'⟩⟩).mono ?_; rintro r w1 ⟨rfl, hb1⟩; replace hT := Aside0.mk (hT.out.keep hb1); clear hb1)
  go_ret
  exact ⟨rfl, hT.out.b⟩
set_option maxHeartbeats 16000000 in
set_option maxRecDepth 1000000 in
theorem holds_none (d n c m e : Nat) (p : Pol) (A B : Option Addr) (l : List S70) (w : World) (b : Bool) (hn : p.kids.length = n) (hC : (kp 53 d).C w A n p.kids) (hm : l.length = m) (hL : Kd.C k70 w B m l) (hl9 : ∀ s ∈ l, s.f9.length ≤ 1000)
    (hF : Aside0 (∀ q cs W, q ∈ p.kids → Kd.C k70 W B m l → (kp 53 d).K W q cs → Calls Try.prog 53 #[.agg cs.toArray, .slice B m e] W fun e w' => e = .returned (.bool (hd d q l)) ∧ Below W.heap.size W w')) (hb : hd (d + 1) p l = b) (hop0 : ¬ p.op.toList = [97, 108, 108]) (hop1 : ¬ p.op.toList = [101, 114, 114, 111, 114]) (hop2 : ¬ p.op.toList = [115, 108, 111, 119]) (hop3 : ¬ p.op.toList = [115, 104, 97, 114, 101]) (hop4 : ¬ p.op.toList = [97, 116, 116, 114]) (hop5 : ¬ p.op.toList = [110, 111, 116]) (hop6 : ¬ p.op.toList = [97, 110, 100]) (hop7 : ¬ p.op.toList = [111, 114]) :
    Calls Try.prog 53 #[.agg #[.string p.op, .string p.key, .int .i64 p.vk, .int .i64 p.vn, .string p.vs, .int .u64 p.n, .slice A n c], .slice B m e] w fun e w' => e = .returned (.bool b) ∧ Below w.heap.size w w' := by
  have hT1 := (Bx.start w).new [.string p.op, .string p.key, .int .i64 p.vk, .int .i64 p.vn, .string p.vs, .int .u64 p.n, .slice A n c] 53
  have e1 := size_alloc w (.cells #[.string p.op, .string p.key, .int .i64 p.vk, .int .i64 p.vn, .string p.vs, .int .u64 p.n, .slice A n c] 53)
  have hT := hT1.new [.slice B m e] 59
  rw [e1] at hT
  replace hT := Aside0.mk hT
  clear hT1 e1
  replace hC := Aside0.mk hC
  replace hL := Aside0.mk hL
  replace hl9 := Aside0.mk hl9
  unfold hd at hb
  rw [if_neg hop0, if_neg hop1, if_neg hop2, if_neg hop3, if_neg hop4, if_neg hop5, if_neg hop6, if_neg hop7] at hb
  subst hb
  have hq0 : (p.op.toList == [97, 108, 108]) = false := by simpa using hop0
  have hq1 : (p.op.toList == [101, 114, 114, 111, 114]) = false := by simpa using hop1
  have hq2 : (p.op.toList == [115, 108, 111, 119]) = false := by simpa using hop2
  have hq3 : (p.op.toList == [115, 104, 97, 114, 101]) = false := by simpa using hop3
  have hq4 : (p.op.toList == [97, 116, 116, 114]) = false := by simpa using hop4
  have hq5 : (p.op.toList == [110, 111, 116]) = false := by simpa using hop5
  have hq6 : (p.op.toList == [97, 110, 100]) = false := by simpa using hop6
  have hq7 : (p.op.toList == [111, 114]) = false := by simpa using hop7
  clear hF hop0 hop1 hop2 hop3 hop4 hop5 hop6 hop7
  go_enter Try.func53, Try.ntmps53
  go_wp2
  go_ret
  exact ⟨rfl, hT.out.b⟩
theorem holds_w : ∀ (d : Nat) (p : Pol) (cs : List Value) (l : List S70) (B : Option Addr) (m e : Nat) (w : World) (b : Bool), (kp 53 d).K w p cs → l.length = m → Kd.C k70 w B m l → (∀ s ∈ l, s.f9.length ≤ 1000) → hd d p l = b →
    Calls Try.prog 53 #[.agg cs.toArray, .slice B m e] w fun e w' => e = .returned (.bool b) ∧ Below w.heap.size w w' := by
  intro d
  induction d with
  | zero => intro p cs l B m e w b hK; exact (kp_no hK).elim
  | succ d ih =>
    intro p cs l B m e w b hK hm hL hl9 hb
    obtain ⟨A, c, rfl, hc, hC⟩ := kp_open hK
    have hF := Aside0.mk (fun q cs W (hq : q ∈ p.kids) (hL' : Kd.C k70 W B m l) (hK : (kp 53 d).K W q cs) => ih q cs l B m e W _ hK hm hL' hl9 rfl)
    by_cases h0 : p.op.toList = [97, 108, 108]
    · exact holds_all d _ c m e p A B l w b rfl hC hm hL hl9 hF hb h0
    by_cases h1 : p.op.toList = [101, 114, 114, 111, 114]
    · exact holds_error d _ c m e p A B l w b rfl hC hm hL hl9 hF hb h1
    by_cases h2 : p.op.toList = [115, 108, 111, 119]
    · exact holds_slow d _ c m e p A B l w b rfl hC hm hL hl9 hF hb h2
    by_cases h3 : p.op.toList = [115, 104, 97, 114, 101]
    · exact holds_share d _ c m e p A B l w b rfl hC hm hL hl9 hF hb h3
    by_cases h4 : p.op.toList = [97, 116, 116, 114]
    · exact holds_attr d _ c m e p A B l w b rfl hC hm hL hl9 hF hb h4
    by_cases h5 : p.op.toList = [110, 111, 116]
    · exact holds_not d _ c m e p A B l w b rfl hC hm hL hl9 hF hb h5
    by_cases h6 : p.op.toList = [97, 110, 100]
    · exact holds_and d _ c m e p A B l w b rfl hC hm hL hl9 hF hb h6
    by_cases h7 : p.op.toList = [111, 114]
    · exact holds_or d _ c m e p A B l w b rfl hC hm hL hl9 hF hb h7
    exact holds_none d _ c m e p A B l w b rfl hC hm hL hl9 hF hb h0 h1 h2 h3 h4 h5 h6 h7
end Go.Proofs.Ytgpkihnihmbomaa.Pt
