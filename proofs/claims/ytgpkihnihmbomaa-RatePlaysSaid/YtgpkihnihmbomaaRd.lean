/- What a gate (rate.Gate) does, with how many windows it knows; and what the document's list of acts says. No conditions but bounds. -/
import Derived.Test.YtgpkihnihmbomaaRc
import Derived.Test.YtgpkihnihmbomaaXRqx1
namespace Go.Proofs.Ytgpkihnihmbomaa.Ra
open Go.RowKit Go.Maps Go.ChangeMaps Go.MapKept Go.Proofs.YtgpkihnihmbomaaW.PrintWords Go.Proofs.YtgpkihnihmbomaaW.PrintLast
open Go.Proofs.Ytgpkihnihmbomaa.Ob Go.Proofs.Ytgpkihnihmbomaa.XRq

/-- A gate: how many passed in each window, which windows it knows, and how many these are; c bounds the windows. -/
structure IsGate2 (w : World) (N B most c : Nat) (f : Nat → Nat) (has : Nat → Bool) (s : Nat) : Prop where
  ne : N ≠ B
  head : Row w N [.int .i64 (most : Int), .map (some B)]
  own : ∃ n D, n ≤ c ∧ w.ownsMap Try.prog 22 (plainElem (H := Unit) Try.prog 3) B n D ∧ (∀ k, k < 18446744073709551616 → D.atKey (key k) (num 0) = num (f k) ∧ Maps.has D (key k) = has k) ∧ Maps.size D = s
theorem IsGate2.old {w : World} {N B most c : Nat} {f : Nat → Nat} {has : Nat → Bool} {s : Nat} (h : IsGate2 w N B most c f has s) : IsGate w N B most c f has := by
  obtain ⟨n, D, h1, h2, h3, h4⟩ := h.own
  exact ⟨h.ne, h.head, n, D, h1, h2, h3⟩
theorem IsGate2.keep {w w' : World} {N B most c : Nat} {f : Nat → Nat} {has : Nat → Bool} {s : Nat} (h : IsGate2 w N B most c f has s) {S : Nat → Prop} (k : Only S w w') (h1 : ¬ S N) (h2 : ¬ S B) : IsGate2 w' N B most c f has s := by
  obtain ⟨n, D, hn, hown, hD⟩ := h.own
  have hlt := hown.lt
  obtain ⟨es, clock, hb, r⟩ := hown
  exact ⟨h.ne, h.head.only k h1, n, D, hn, ⟨es, clock, (k.block B hlt h2).trans hb, r⟩, hD⟩
theorem IsGate2.same {w : World} {N B most c c' : Nat} {f f' : Nat → Nat} {has has' : Nat → Bool} {s s' : Nat} (h : IsGate2 w N B most c f has s) (hc : c ≤ c') (hf : ∀ k, k < 18446744073709551616 → f k = f' k ∧ has k = has' k) (hs : s = s') : IsGate2 w N B most c' f' has' s' := by
  obtain ⟨n, D, h1, h2, h3, h4⟩ := h.own
  exact ⟨h.ne, h.head, n, D, Nat.le_trans h1 hc, h2, fun k hk => ⟨by rw [← (hf k hk).1]; exact (h3 k hk).1, by rw [← (hf k hk).2]; exact (h3 k hk).2⟩, h4.trans hs⟩
theorem own_put2 {w w' : World} {B c : Nat} {f : Nat → Nat} {has : Nat → Bool} {s n : Nat} {D : DataW Unit} (h : w.ownsMap Try.prog 22 (plainElem (H := Unit) Try.prog 3) B n D) (hn : n ≤ c) (hD : ∀ k, k < 18446744073709551616 → D.atKey (key k) (num 0) = num (f k) ∧ Maps.has D (key k) = has k) (hs : Maps.size D = s) (k v : Nat) (hk : k < 18446744073709551616)
    (h' : w'.ownsMap Try.prog 22 (plainElem (H := Unit) Try.prog 3) B (n + 1) (D.put (key k) (num v))) :
    ∃ n D, n ≤ c + 1 ∧ w'.ownsMap Try.prog 22 (plainElem (H := Unit) Try.prog 3) B n D ∧ (∀ j, j < 18446744073709551616 → D.atKey (key j) (num 0) = num (at' f k v j) ∧ Maps.has D (key j) = at' has k true j) ∧ Maps.size D = if has k then s else s + 1 := by
  refine ⟨n + 1, _, by omega, h', fun j hj => ?_, ?_⟩
  · unfold at'
    by_cases e : j = k
    · subst e
      rw [if_pos rfl, if_pos rfl]
      have hkl : WideAt.IsKeyLit (key j) := by unfold key; trivial
      exact ⟨atKey_put_same h.isMap hkl _ _, has_put_same h.isMap hkl _⟩
    · rw [if_neg e, if_neg e]
      have := hD j hj
      exact ⟨(atKey_put_other (key_ne e) _ _).trans this.1, (has_put_other (key_ne e) _).trans this.2⟩
  · rw [size_put (h.tidy law22), (hD k hk).2, hs]
theorem own_del2 {w w' : World} {B c : Nat} {f : Nat → Nat} {has : Nat → Bool} {s n : Nat} {D : DataW Unit} (h : w.ownsMap Try.prog 22 (plainElem (H := Unit) Try.prog 3) B n D) (hn : n ≤ c) (hD : ∀ k, k < 18446744073709551616 → D.atKey (key k) (num 0) = num (f k) ∧ Maps.has D (key k) = has k) (hs : Maps.size D = s) (k : Nat) (hk : k < 18446744073709551616)
    (h' : w'.ownsMap Try.prog 22 (plainElem (H := Unit) Try.prog 3) B n (D.del (key k))) :
    ∃ n D, n ≤ c ∧ w'.ownsMap Try.prog 22 (plainElem (H := Unit) Try.prog 3) B n D ∧ (∀ j, j < 18446744073709551616 → D.atKey (key j) (num 0) = num (at' f k 0 j) ∧ Maps.has D (key j) = at' has k false j) ∧ Maps.size D = s - if has k then 1 else 0 := by
  refine ⟨n, _, hn, h', fun j hj => ?_, ?_⟩
  · unfold at'
    by_cases e : j = k
    · subst e
      rw [if_pos rfl, if_pos rfl]
      exact ⟨atKey_del_same _, has_del_same⟩
    · rw [if_neg e, if_neg e]
      have := hD j hj
      exact ⟨(atKey_del_other (key_ne e) _).trans this.1, (has_del_other (key_ne e)).trans this.2⟩
  · have := size_del (h.tidy law22) (k := key k)
    rw [(hD k hk).2, hs] at this
    omega

set_option maxHeartbeats 4000000 in
set_option maxRecDepth 1000000 in
theorem pass2_walk (N B most c : Nat) (f : Nat → Nat) (has : Nat → Bool) (s s2 k : Nat) (w : World) (hg : IsGate2 w N B most c f has s) (hk : k < 18446744073709551616) (hm : most ≤ 65536) (hc : c < 1000000) (hs2 : Aside0 (s2 = if has k then s else s + 1)) :
    Calls Try.prog 16 #[.pointer (some ⟨N, 0, none⟩), .int .u64 (k : Int)] w fun r w' => r = .returned (.bool (decide (f k < most))) ∧ IsGate2 w' N B most (c + 1) (at' f k (if f k < most then f k + 1 else f k)) (at' has k true) s2 ∧ Only (fun j => j = B) w w' := by
  obtain ⟨n, D, hn, hown, hD, hs⟩ := hg.own
  have hkey : keyOf Try.prog 22 (.int .u64 (k : Int)) = some (key k) := keyOf_int_mk Try.underlying22 (key_wf hk)
  have c0 := (hg.head 0 _ rfl).1
  have c1 := (hg.head 1 _ rfl).1
  have hat0 := Aside0.mk (hD k hk).1
  have hput := Aside0.mk (fun (v : Nat) (w' : World) => hs2.out ▸ own_put2 (w' := w') hown hn hD hs k v hk)
  have hnm : n < maxLen := by unfold maxLen; omega
  have hne := hg.ne
  clear hs
  by_cases hlt : f k < most
  · have hr := Aside0.mk (show decide (f k < most) = true from decide_eq_true hlt)
    rw [if_pos hlt]
    go_enter Try.func16, Try.ntmps16
    have hw1 : (Lit.int .i64 ((f k : Int) + 1)).wf = true := by
      simp only [Lit.wf, IntKind.min, IntKind.max, IntKind.signed, IntKind.bits]
      simp; omega
    have hput1 := Aside0.mk (fun w' h' => hput.out (f k + 1) w' h')
    have hcast : ((f k + 1 : Nat) : Int) = (f k : Int) + 1 := by omega
    unfold num at hput1
    rw [hcast] at hput1
    clear hput hcast
    go_wp2_with (first
      | (at_lookup; refine wpList_lookup_own_int _ rfl _ _ 93 rfl 22 3 .i64 law22 Try.underlying93 Try.underlying3 (zero3 _) B n D rfl hown _ _ rfl hkey ?_; intro v hat hwc; obtain rfl := look_eq hat hat0.out; clear hat hwc)
      | (at_mapUpdate; refine wpList_mapUpdate_in _ rfl _ _ _ 93 rfl 22 3 law22 Try.underlying93 _ B n D rfl hown hnm _ _ _ rfl rfl hkey _ [] (plainElem_int Try.underlying3 hw1) ?_; intro w1 hown1 hturn1))
    go_ret
    exact ⟨by rw [hr.out]; first | rfl | simp [hlt], ⟨hg.ne, hg.head.only (Only.of_turned hturn1) hne, hput1.out _ hown1⟩, Only.of_turned hturn1⟩
  · have hr := Aside0.mk (show decide (f k < most) = false from decide_eq_false hlt)
    rw [if_neg hlt]
    go_enter Try.func16, Try.ntmps16
    have hput1 := Aside0.mk (fun w' h' => hput.out (f k) w' h')
    unfold num at hput1
    clear hput
    go_wp2_with (first
      | (at_lookup; refine wpList_lookup_own_int _ rfl _ _ 93 rfl 22 3 .i64 law22 Try.underlying93 Try.underlying3 (zero3 _) B n D rfl hown _ _ rfl hkey ?_; intro v hat hwc; obtain rfl := look_eq hat hat0.out; clear hat)
      | (at_mapUpdate; refine wpList_mapUpdate_in _ rfl _ _ _ 93 rfl 22 3 law22 Try.underlying93 _ B n D rfl hown hnm _ _ _ rfl rfl hkey _ [] (plainElem_int Try.underlying3 (by assumption)) ?_; intro w1 hown1 hturn1))
    go_ret
    exact ⟨by rw [hr.out]; first | rfl | simp [hlt], ⟨hg.ne, hg.head.only (Only.of_turned hturn1) hne, hput1.out _ hown1⟩, Only.of_turned hturn1⟩

set_option maxHeartbeats 4000000 in
set_option maxRecDepth 1000000 in
theorem forget2_walk (N B most c : Nat) (f : Nat → Nat) (has : Nat → Bool) (s s2 k : Nat) (w : World) (hg : IsGate2 w N B most c f has s) (hk : k < 18446744073709551616) (hs2 : Aside0 (s2 = s - if has k then 1 else 0)) :
    Calls Try.prog 18 #[.pointer (some ⟨N, 0, none⟩), .int .u64 (k : Int)] w fun r w' => r = .returned (.bool (has k)) ∧ IsGate2 w' N B most c (at' f k 0) (at' has k false) s2 ∧ Only (fun j => j = B) w w' := by
  obtain ⟨n, D, hn, hown, hD, hs⟩ := hg.own
  have hkey : keyOf Try.prog 22 (.int .u64 (k : Int)) = some (key k) := keyOf_int_mk Try.underlying22 (key_wf hk)
  have c1 := (hg.head 1 _ rfl).1
  have hhas := Aside0.mk (hD k hk).2
  have hdel := Aside0.mk (fun (w' : World) => hs2.out ▸ own_del2 (w' := w') hown hn hD hs k hk)
  have hne := hg.ne
  clear hs
  go_enter Try.func18, Try.ntmps18
  go_wp2_with (first
    | (at_lookup; refine wpList_lookup_own_ok_int _ rfl _ _ 93 rfl 22 3 .i64 law22 Try.underlying93 Try.underlying3 (zero3 _) B n D rfl hown _ _ rfl hkey ?_; intro v hat hwc; clear hat hwc; rw [hhas.out])
    | (at_delete; refine wpList_delete_own _ rfl _ _ 93 22 rfl 3 law22 Try.underlying93 _ B n D rfl hown _ _ rfl hkey ?_; intro w1 hown1 hturn1))
  go_ret
  exact ⟨rfl, ⟨hg.ne, hg.head.only (Only.of_turned hturn1) hne, hdel.out _ hown1⟩, Only.of_turned hturn1⟩
set_option maxHeartbeats 4000000 in
set_option maxRecDepth 1000000 in
theorem len_walk (N B most c : Nat) (f : Nat → Nat) (has : Nat → Bool) (s : Nat) (w : World) (hg : IsGate2 w N B most c f has s) :
    Calls Try.prog 20 #[.pointer (some ⟨N, 0, none⟩)] w fun r w' => r = .returned (.int .i64 (s : Int)) ∧ w' = w := by
  obtain ⟨n, D, hn, hown, hD, hs⟩ := hg.own
  have c1 := (hg.head 1 _ rfl).1
  go_enter Try.func20, Try.ntmps20
  go_wp2_with (at_len; refine wpList_len_own _ rfl _ 93 rfl 22 3 Try.underlying93 _ B n D rfl hown ?_)
  go_ret
  exact ⟨by subst hs; rfl, rfl⟩
/-- A gate was made, in new blocks. -/
def Made2 (w : World) (most : Nat) (r : Ending) (w' : World) : Prop := ∃ N B, r = .returned (.tuple #[.pointer (some ⟨N, 0, none⟩), .int .i64 0]) ∧ w.heap.size ≤ N ∧ w.heap.size ≤ B ∧ N < w'.heap.size ∧ B < w'.heap.size ∧ IsGate2 w' N B most 0 (fun _ => 0) (fun _ => false) 0 ∧ Only (fun _ => False) w w'
set_option maxHeartbeats 4000000 in
set_option maxRecDepth 1000000 in
theorem new2_walk (m : Nat) (w : World) (hm : m ≤ 65536) : Calls Try.prog 15 #[.int .i64 (m : Int)] w fun r w' => Made2 w m r w' := by
  have h1 : ¬ (m : Int) > 65536 := by omega
  have hmm := @run_makeMap Try.prog
  have own := Aside0.mk (World.ownsMap_made w Try.prog 22 (plainElem (H := Unit) Try.prog 3))
  have hsz : (w.alloc (.map #[] 0)).heap.size = w.heap.size + 1 := by show (w.heap.push _).size = _; simp
  go_enter Try.func15, Try.ntmps15
  go_wp2
  go_ret2
  have R2 := Row.new (w.alloc (.map #[] 0)) [.int .i64 (m : Int), .map (some w.heap.size)] 95
  rw [hsz] at R2
  have hsz2 : ∀ o, ((w.alloc (.map #[] 0)).alloc o).heap.size = w.heap.size + 2 := fun o => by show ((w.heap.push _).push _).size = _; simp
  refine ⟨w.heap.size + 1, w.heap.size, rfl, by omega, by omega, by rw [hsz2]; omega, by rw [hsz2]; omega, ⟨by omega, by simpa using R2, ⟨0, _, Nat.le_refl _, own.out.alloc _, fun k _ => ⟨rfl, rfl⟩, rfl⟩⟩, ((Only.refl _ w).alloc _).alloc _⟩

/-! ### the list of acts -/
def cstep (k : Int) (n : Nat) (a : S33) : Nat := if a.f1 = k then (if a.f0 = 1 then 0 else n + 1) else n
/-- How often a window was asked since it was forgotten last. -/
def cnt (l : List S33) (k : Int) : Nat := l.foldl (cstep k) 0
theorem cnt_snoc (l : List S33) (a : S33) (k : Int) : cnt (l ++ [a]) k = cstep k (cnt l k) a := by simp [cnt, List.foldl_append]
theorem cnt_le (l : List S33) (k : Int) : cnt l k ≤ l.length := by
  unfold cnt
  have : ∀ (l : List S33) (n : Nat), l.foldl (cstep k) n ≤ n + l.length := by
    intro l
    induction l with
    | nil => intro n; simp
    | cons a r ih =>
      intro n
      have h1 : cstep k n a ≤ n + 1 := by unfold cstep; split <;> (try split) <;> omega
      have := ih (cstep k n a)
      simp only [List.foldl_cons, List.length_cons]; omega
  simpa using this l 0
theorem rd33 (l : List S33) (i : Nat) (h : i < l.length) : rd_T33 l (i : Int) = l[i] := by
  unfold rd_T33
  rw [Int.toNat_natCast, List.getD_eq_getElem?_getD, List.getElem?_eq_getElem h]
  rfl
theorem asked_eq (l : List S33) (k : Int) (hl : l.length < 1000000) : ∀ m g i (q : Nat), i ≤ l.length → l.length - i = m → m < g → q + m < 1000000 →
    tallyroomref23_Asked.l0 g l k (q : Int) (i : Int) = some (((l.drop i).foldl (cstep k) q : Nat) : Int) := by
  intro m
  induction m with
  | zero =>
    intro g i q hi hm hg hb
    obtain ⟨g, rfl⟩ : ∃ j, g = j + 1 := ⟨g - 1, by omega⟩
    have hi' : i = l.length := by omega
    subst hi'
    rw [tallyroomref23_Asked.l0, if_neg (by omega), List.drop_length]
    rfl
  | succ m ih =>
    intro g i q hi hm hg hb
    obtain ⟨g, rfl⟩ : ∃ j, g = j + 1 := ⟨g - 1, by omega⟩
    have hil : i < l.length := by omega
    rw [tallyroomref23_Asked.l0, if_pos (by omega), if_pos (by omega), rd33 l i hil, List.drop_eq_getElem_cons hil, List.foldl_cons]
    have hw : wrap64 ((i : Int) + 1) = ((i + 1 : Nat) : Int) := by rw [IntWalk.wrap64_in _ (by omega)]; rfl
    have hq : wrap64 ((q : Int) + 1) = ((q + 1 : Nat) : Int) := by rw [IntWalk.wrap64_in _ (by omega)]; rfl
    rw [hw, hq]
    by_cases h1 : (l[i]).f1 = k
    · rw [if_pos h1]
      by_cases h2 : (l[i]).f0 = 1
      · rw [if_pos h2]
        have := ih g (i + 1) 0 (by omega) (by omega) (by omega) (by omega)
        rw [show cstep k q l[i] = 0 by unfold cstep; rw [if_pos h1, if_pos h2]]
        exact this
      · rw [if_neg h2, ih g (i + 1) (q + 1) (by omega) (by omega) (by omega) (by omega)]
        rw [show cstep k q l[i] = q + 1 by unfold cstep; rw [if_pos h1, if_neg h2]]
    · rw [if_neg h1, ih g (i + 1) q (by omega) (by omega) (by omega) (by omega)]
      rw [show cstep k q l[i] = q by unfold cstep; rw [if_neg h1]]
theorem asked_f (l : List S33) (k : Int) (hl : l.length < 1000) : tallyroomref23_Asked.f 1001 l k = some ((cnt l k : Nat) : Int) := by
  have := asked_eq l k (by omega) l.length 1001 0 0 (Nat.zero_le _) rfl (by omega) (by omega)
  exact this

/-- The windows, each once, as they first come up. -/
def firsts (l : List S33) : List Int := l.foldl (fun D a => if a.f1 ∈ D then D else D ++ [a.f1]) []
theorem firsts_snoc (l : List S33) (a : S33) : firsts (l ++ [a]) = if a.f1 ∈ firsts l then firsts l else firsts l ++ [a.f1] := by
  show List.foldl _ _ (l ++ [a]) = _
  rw [List.foldl_append]; rfl
theorem mem_firsts (l : List S33) (k : Int) : k ∈ firsts l ↔ ∃ a ∈ l, a.f1 = k := by
  generalize hm : l.length = m
  induction m generalizing l with
  | zero => rw [List.eq_nil_of_length_eq_zero hm]; simp [firsts]
  | succ m ih =>
    rcases List.eq_nil_or_concat l with rfl | ⟨r, a, rfl⟩
    · cases hm
    · rw [List.concat_eq_append] at hm ⊢
      have h := ih r (by simpa using hm)
      have e : (∃ x ∈ r ++ [a], x.f1 = k) ↔ (∃ x ∈ r, x.f1 = k) ∨ a.f1 = k := by
        constructor
        · rintro ⟨x, hx, e⟩
          rcases List.mem_append.1 hx with hx | hx
          · exact .inl ⟨x, hx, e⟩
          · rw [List.mem_singleton.1 hx] at e; exact .inr e
        · rintro (⟨x, hx, e⟩ | e)
          · exact ⟨x, List.mem_append_left _ hx, e⟩
          · exact ⟨a, by simp, e⟩
      rw [firsts_snoc, e]
      split
      · rename_i hin
        constructor
        · intro hk; exact .inl (h.1 hk)
        · rintro (hk | rfl)
          · exact h.2 hk
          · exact hin
      · rw [List.mem_append, h, List.mem_singleton]
        exact ⟨fun x => x.imp id Eq.symm, fun x => x.imp id Eq.symm⟩
theorem firsts_nodup (l : List S33) : (firsts l).Nodup := by
  generalize hm : l.length = m
  induction m generalizing l with
  | zero => rw [List.eq_nil_of_length_eq_zero hm]; simp [firsts]
  | succ m ih =>
    rcases List.eq_nil_or_concat l with rfl | ⟨r, a, rfl⟩
    · cases hm
    · rw [List.concat_eq_append] at hm ⊢
      have h := ih r (by simpa using hm)
      rw [firsts_snoc]
      split
      · exact h
      · rename_i hin
        rw [List.nodup_append]
        exact ⟨h, by simp, fun x hx y hy => by rw [List.mem_singleton.1 hy]; rintro rfl; exact hin hx⟩
/-- How many of some windows are known. -/
def known (l : List S33) (D : List Int) : Nat := D.countP (fun k => decide (0 < cnt l k))
theorem countP_other (p q : Int → Bool) (k : Int) (D : List Int) (hk : k ∉ D) (h : ∀ j, j ≠ k → p j = q j) : D.countP p = D.countP q := by
  induction D with
  | nil => rfl
  | cons a r ih =>
    have h1 : a ≠ k := fun e => hk (by simp [e])
    rw [List.countP_cons, List.countP_cons, ih (fun e => hk (by simp [e])), h a h1]
theorem countP_one (p q : Int → Bool) (k : Int) (D : List Int) (hn : D.Nodup) (hk : k ∈ D) (h : ∀ j, j ≠ k → p j = q j) : D.countP p + (if q k then 1 else 0) = D.countP q + (if p k then 1 else 0) := by
  induction D with
  | nil => simp at hk
  | cons a r ih =>
    rw [List.countP_cons, List.countP_cons]
    rw [List.nodup_cons] at hn
    by_cases e : a = k
    · subst e
      have := countP_other p q a r hn.1 h
      omega
    · have h1 := ih hn.2 (by simpa [Ne.symm e] using hk)
      rw [h a e]
      omega
theorem cnt_other (l : List S33) (a : S33) (k : Int) (h : k ≠ a.f1) : cnt (l ++ [a]) k = cnt l k := by rw [cnt_snoc]; unfold cstep; rw [if_neg (fun e => h e.symm)]
theorem cnt_zero (l : List S33) (k : Int) (h : ∀ a ∈ l, a.f1 ≠ k) : cnt l k = 0 := by
  unfold cnt
  have : ∀ (l : List S33) (n : Nat), (∀ a ∈ l, a.f1 ≠ k) → l.foldl (cstep k) n = n := by
    intro l
    induction l with
    | nil => intro n _; rfl
    | cons a r ih => intro n h; rw [List.foldl_cons, ih _ (fun x hx => h x (by simp [hx]))]; unfold cstep; rw [if_neg (h a (by simp))]
  exact this l 0 h
theorem known_ask (l : List S33) (a : S33) (h : a.f0 ≠ 1) : known (l ++ [a]) (firsts (l ++ [a])) = if decide (0 < cnt l a.f1) then known l (firsts l) else known l (firsts l) + 1 := by
  have hc : cnt (l ++ [a]) a.f1 = cnt l a.f1 + 1 := by rw [cnt_snoc]; unfold cstep; rw [if_pos rfl, if_neg h]
  have ho : ∀ j, j ≠ a.f1 → decide (0 < cnt (l ++ [a]) j) = decide (0 < cnt l j) := fun j hj => by rw [cnt_other l a j hj]
  rw [firsts_snoc]
  split
  · rename_i hin
    have := countP_one _ _ a.f1 (firsts l) (firsts_nodup l) hin ho
    unfold known
    rw [hc] at this
    simp only [Nat.zero_lt_succ, decide_true, if_true] at this
    by_cases hz : 0 < cnt l a.f1
    · rw [decide_eq_true hz] at this ⊢
      simp only [if_true] at this ⊢
      omega
    · rw [decide_eq_false hz] at this ⊢
      simp only [Bool.false_eq_true, if_false] at this ⊢
      omega
  · rename_i hin
    have h0 : cnt l a.f1 = 0 := cnt_zero l a.f1 fun x hx e => hin ((mem_firsts l a.f1).2 ⟨x, hx, e⟩)
    unfold known
    rw [List.countP_append, countP_other _ _ a.f1 (firsts l) hin ho, h0]
    simp [hc]
theorem known_forget (l : List S33) (a : S33) (h : a.f0 = 1) : known (l ++ [a]) (firsts (l ++ [a])) = known l (firsts l) - if decide (0 < cnt l a.f1) then 1 else 0 := by
  have hc : cnt (l ++ [a]) a.f1 = 0 := by rw [cnt_snoc]; unfold cstep; rw [if_pos rfl, if_pos h]
  have ho : ∀ j, j ≠ a.f1 → decide (0 < cnt (l ++ [a]) j) = decide (0 < cnt l j) := fun j hj => by rw [cnt_other l a j hj]
  rw [firsts_snoc]
  split
  · rename_i hin
    have := countP_one _ _ a.f1 (firsts l) (firsts_nodup l) hin ho
    unfold known
    rw [hc] at this
    simp only [Nat.lt_irrefl, decide_false, Bool.false_eq_true, if_false] at this
    omega
  · rename_i hin
    have h0 : cnt l a.f1 = 0 := cnt_zero l a.f1 fun x hx e => hin ((mem_firsts l a.f1).2 ⟨x, hx, e⟩)
    unfold known
    rw [List.countP_append, countP_other _ _ a.f1 (firsts l) hin ho, h0]
    simp [hc]
/-- One window more is looked at: is it there for the first time, and known? -/
theorem known_next (L : List S33) (k : Nat) (h : k < L.length) : known L (firsts (L.take (k + 1))) = known L (firsts (L.take k)) + if decide (0 < cnt L (L[k]).f1) && decide (∀ j, j < k → ∀ a, L[j]? = some a → a.f1 ≠ (L[k]).f1) then 1 else 0 := by
  rw [List.take_succ_eq_append_getElem h, firsts_snoc]
  have e : (L[k]).f1 ∈ firsts (L.take k) ↔ ¬ ∀ j, j < k → ∀ a, L[j]? = some a → a.f1 ≠ (L[k]).f1 := by
    rw [mem_firsts]
    constructor
    · rintro ⟨a, ha, e⟩ hall
      obtain ⟨j, hj, e2⟩ := List.getElem_of_mem ha
      have hjk : j < k := by rw [List.length_take] at hj; omega
      refine hall j hjk a ?_ e
      rw [← e2, List.getElem_take]; exact List.getElem?_eq_getElem (by omega)
    · intro hne
      apply Classical.byContradiction
      intro hno
      apply hne
      intro j hj a ha e2
      apply hno
      refine ⟨a, ?_, e2⟩
      rw [List.mem_take_iff_getElem]
      obtain ⟨hjl, e3⟩ := List.getElem?_eq_some_iff.1 ha
      exact ⟨j, by omega, e3⟩
  split
  · rename_i hin
    rw [decide_eq_false (e.1 hin), Bool.and_false]; simp
  · rename_i hin
    have hall : ∀ j, j < k → ∀ a, L[j]? = some a → a.f1 ≠ (L[k]).f1 := Classical.byContradiction fun hno => hin (e.2 hno)
    rw [decide_eq_true hall, Bool.and_true]
    unfold known
    rw [List.countP_append, List.countP_singleton]
end Go.Proofs.Ytgpkihnihmbomaa.Ra
