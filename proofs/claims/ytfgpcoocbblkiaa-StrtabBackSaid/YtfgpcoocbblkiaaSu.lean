/- A table of texts, more: New, At, Len, Bytes, and what no table answers. No conditions but bounds. -/
import Derived.Test.YtfgpcoocbblkiaaSt
import Derived.Test.YtfgpcoocbblkiaaVarLaws
import Derived.Test.YtfgpcoocbblkiaaXSvx5
import Derived.Test.YtfgpcoocbblkiaaXSvx12
namespace Go.Proofs.Ytfgpcoocbblkiaa.St
open Go.RowKit Go.Maps Go.ChangeMaps Go.MapKept Go.Proofs.YtfgpcoocbblkiaaW.PrintWords Go.Proofs.YtfgpcoocbblkiaaW.PrintLast
open Go.Proofs.Ytfgpcoocbblkiaa.Ob Go.Proofs.Ytfgpcoocbblkiaa.XSv Go.Proofs.Ytfgpcoocbblkiaa.Var
set_option linter.unusedSimpArgs false
set_option linter.unusedVariables false

/-- A table was made. -/
def Made (w w' : World) (base : Nat) (r : Ending) : Prop := ∃ N B, r = .returned (.pointer (some ⟨N, 0, none⟩)) ∧ w.heap.size ≤ N ∧ w.heap.size ≤ B ∧ IsT w' base N B none [] ∧ Only (fun _ => False) w w'
set_option maxHeartbeats 4000000 in
set_option maxRecDepth 1000000 in
theorem new_walk (base : Nat) (w : World) (hb : base ≤ w.heap.size) : Calls Try.prog 13 #[] w fun r w' => Made w w' base r := by
  have hmm := @run_makeMap Try.prog
  have own := Aside0.mk (World.ownsMap_made w Try.prog 9 (plainElem (H := Unit) Try.prog 3))
  have hsz : (w.alloc (.map #[] 0)).heap.size = w.heap.size + 1 := by show (w.heap.push _).size = _; simp
  go_enter Try.func13, Try.ntmps13
  go_wp2
  go_ret
  have R2 := Row.new (w.alloc (.map #[] 0)) [.slice none 0 0, .map (some w.heap.size)] 107
  rw [hsz] at R2
  refine ⟨w.heap.size + 1, w.heap.size, rfl, by omega, by omega, ⟨by omega, ⟨.slice none 0 0, by simpa using R2, Kd.R_nil _ _ _ _ _, rfl⟩, ⟨0, _, Nat.le_refl _, own.out.alloc _, fun s _ => ⟨rfl, rfl⟩⟩, by omega, by omega, by simp⟩, ((Only.refl _ w).alloc _).alloc _⟩
set_option maxHeartbeats 4000000 in
set_option maxRecDepth 1000000 in
theorem len_walk (w : World) (N B base : Nat) (b : Option Nat) (L : List ByteArray) (hg : IsT w base N B b L) : Calls Try.prog 21 #[.pointer (some ⟨N, 0, none⟩)] w fun r w' => r = .returned (.int .i64 (L.length : Int)) ∧ w' = w := by
  obtain ⟨v, hr, he, _⟩ := hg.ev
  obtain ⟨A, c, rfl⟩ := Kd.R_slice he
  have c0 := (hr 0 _ rfl).1
  go_enter Try.func21, Try.ntmps21
  go_wp2
  go_ret
  exact ⟨rfl, rfl⟩
set_option maxHeartbeats 4000000 in
set_option maxRecDepth 1000000 in
theorem at_out (w : World) (N B base : Nat) (b : Option Nat) (L : List ByteArray) (i : Int) (hg : IsT w base N B b L) (hi : i < 0 ∨ (L.length : Int) ≤ i) : Calls Try.prog 20 #[.pointer (some ⟨N, 0, none⟩), .int .i64 i] w fun r w' => r = .returned (.tuple #[.string ByteArray.empty, .bool false]) ∧ w' = w := by
  obtain ⟨v, hr, he, _⟩ := hg.ev
  obtain ⟨A, c, rfl⟩ := Kd.R_slice he
  have c0 := (hr 0 _ rfl).1
  go_enter Try.func20, Try.ntmps20
  by_cases h1 : i < 0
  · clear hi
    go_wp2
    go_ret2
    exact ⟨rfl, rfl⟩
  · have h2 : (L.length : Int) ≤ i := by omega
    clear hi
    go_wp2
    go_ret2
    exact ⟨rfl, rfl⟩
theorem str_at {w : World} {A : Option Addr} {n : Nat} {L : List ByteArray} (h : Kd.C Kd.string w A n L) (i : Nat) (hi : i < L.length) : ∃ ad, A = some ad ∧ w.cell? (ad.add i) = some (.string L[i]) := by
  obtain ⟨hl, _, hc⟩ := h
  obtain ⟨ad, e, hc⟩ := hc (by omega)
  obtain ⟨c, hcl, hk, hcell⟩ := hc i _ (List.getElem?_eq_getElem hi)
  obtain rfl : c = [.string L[i]] := hk
  have := hcell 0 _ rfl
  refine ⟨ad, e, ?_⟩
  rw [show i * Kd.string.sz + 0 = i by show i * 1 + 0 = i; omega] at this
  exact this
set_option maxHeartbeats 4000000 in
set_option maxRecDepth 1000000 in
theorem at_walk (w : World) (N B base : Nat) (b : Option Nat) (L : List ByteArray) (i : Nat) (hg : IsT w base N B b L) (hi : i < L.length) : Calls Try.prog 20 #[.pointer (some ⟨N, 0, none⟩), .int .i64 (i : Int)] w fun r w' => r = .returned (.tuple #[.string L[i], .bool true]) ∧ w' = w := by
  obtain ⟨v, hr, he, _⟩ := hg.ev
  obtain ⟨A, c, rfl, hc, hC⟩ := Kd.R_reads he
  obtain ⟨ad, rfl, hx⟩ := str_at hC i hi
  have c0 := (hr 0 _ rfl).1
  have h1 : (0 : Int) ≤ (i : Int) := by omega
  have h2 : (i : Int) < (L.length : Int) := by omega
  generalize L[i] = s at hx ⊢
  go_enter Try.func20, Try.ntmps20
  go_wp2
  go_ret2
  exact ⟨rfl, rfl⟩
theorem put_nil (s : ByteArray) (w : World) : Calls Try.prog 14 #[.pointer none, .string s] w fun r w' => r = .returned (.tuple #[.int .i64 0, .int .i64 3]) ∧ w' = w := by
  go_enter Try.func14, Try.ntmps14
  go_wp2
  go_ret2
  exact ⟨rfl, rfl⟩
theorem at_nil (i : Int) (w : World) : Calls Try.prog 20 #[.pointer none, .int .i64 i] w fun r w' => r = .returned (.tuple #[.string ByteArray.empty, .bool false]) ∧ w' = w := by
  go_enter Try.func20, Try.ntmps20
  go_wp2
  go_ret2
  exact ⟨rfl, rfl⟩
theorem len_nil (w : World) : Calls Try.prog 21 #[.pointer none] w fun r w' => r = .returned (.int .i64 0) ∧ w' = w := by
  go_enter Try.func21, Try.ntmps21
  go_wp2
  go_ret
  exact ⟨rfl, rfl⟩
theorem bytes_nil (w : World) : Calls Try.prog 18 #[.pointer none] w fun r w' => r = .returned (.slice none 0 0) ∧ w' = w := by
  go_enter Try.func18, Try.ntmps18
  go_wp2
  go_ret
  exact ⟨rfl, rfl⟩

/-- A text's bytes; a table's. -/
def txt (s : ByteArray) : List Nat := vput s.size ++ s.data.toList.map UInt8.toNat
def enc (L : List ByteArray) : List Nat := vput L.length ++ L.flatMap txt
theorem bytesOf_eq (s : ByteArray) : bytesOf s = ofN (s.data.toList.map UInt8.toNat) := by
  unfold bytesOf ofN; simp
theorem txt_length (s : ByteArray) (h : s.size < 2 ^ 64) : (txt s).length ≤ s.size + 10 := by
  unfold txt
  rw [List.length_append, List.length_map, data_length]
  have := vput_length_le s.size h
  omega
def encI (L : List ByteArray) (i : Nat) : List Nat := vput L.length ++ (L.take i).flatMap txt
theorem encI_length (L : List ByteArray) (i : Nat) (hL : L.length ≤ 5000) (hs : ∀ s ∈ L, s.size ≤ 5000) : (encI L i).length ≤ 10 + 5010 * i := by
  unfold encI
  rw [List.length_append]
  have h1 := vput_length_le L.length (by omega)
  have h2 : ∀ l : List ByteArray, (∀ s ∈ l, s.size ≤ 5000) → (l.flatMap txt).length ≤ 5010 * l.length := by
    intro l
    induction l with
    | nil => intro _; simp
    | cons x r ih =>
      intro h
      have := ih (fun s hs => h s (by simp [hs]))
      have h3 := h x (by simp)
      have h4 := txt_length x (by omega)
      rw [List.flatMap_cons, List.length_append, List.length_cons]; omega
  have := h2 (L.take i) (fun s hx => hs s (List.mem_of_mem_take hx))
  have h5 : (L.take i).length ≤ i := by rw [List.length_take]; omega
  have h6 : 5010 * (L.take i).length ≤ 5010 * i := Nat.mul_le_mul_left _ h5
  omega
theorem encI_next (L : List ByteArray) (i : Nat) (h : i < L.length) : encI L (i + 1) = encI L i ++ vput (L[i]).size ++ (L[i]).data.toList.map UInt8.toNat := by
  unfold encI
  rw [List.take_succ_eq_append_getElem h, List.flatMap_append, List.flatMap_cons, List.flatMap_nil, List.append_nil, txt]
  simp [List.append_assoc]
theorem encI_all (L : List ByteArray) : encI L L.length = enc L := by unfold encI enc; rw [List.take_length]
section
variable {P : Program} {ops : Array Oper} {rest : List Oper} {o : Oper} {a : Act} {Q : Exit → Act → World → Prop}
/-- append(bytes, text...) onto an own row. -/
theorem R_append_str {w0 W : World} (base : Nat) (hgd : o.guard = none) (s x : Operand) (t u e : TypeId)
    (ho : o.op = .call { callee := .builtin .append, args := #[s, x], argTypes := #[t, u] })
    (ht : P.underlying t = some (.slice e)) (hu : P.underlying u = some .string) (hinfo : (P.info? e).map (fun i => (i.zero, i.size, i.bytes)) = some (some (.int .u8 0), 1, 1))
    (v : Value) (xs : List Nat) (y : ByteArray) (hs : a.eval s = v) (hx : a.eval x = .string y)
    (HO : Kd.R (Kd.int .u8) e W base (fun _ => True) v (ofN xs)) (HB : Below base w0 W) (hbase : base ≤ W.heap.size) (hl : xs.length + y.size ≤ 140737488355328)
    (h : ∀ v1 w1, Kd.R (Kd.int .u8) e w1 base (fun _ => True) v1 (ofN (xs ++ y.data.toList.map UInt8.toNat)) → Below base w0 w1 → wpList P ops Q rest (a.put o.dst v1) w1) :
    wpList P ops Q (o :: rest) a W := by
  refine print_append_str (w0 := w0) base hgd s x t u e ho ht hu hinfo v (ofN xs) y hs hx (Kd.own_of_R HO) HB hbase (by rw [ofN_length]; exact hl) ?_
  intro v1 w1 hown hb hg
  refine h v1 w1 ?_ hb
  rw [ofN_append, ← bytesOf_eq]
  exact Kd.R_of_own hown (fun _ _ => trivial)
end
/-- Bytes that were made since. -/
structure By (w wr : World) (v : Value) (l : List Nat) : Prop where
  r : Kd.R (Kd.int .u8) 5 wr w.heap.size (fun _ => True) v (ofN l)
  o : Only (fun _ => False) w wr
theorem By.below {w wr : World} {v : Value} {l : List Nat} (h : By w wr v l) : Below w.heap.size w wr := h.o.below (fun _ e => e.elim) (Nat.le_refl _)
theorem By.reads {w wr : World} {v : Value} {l : List Nat} (h : By w wr v l) : ∃ A c, v = .slice A (ofN l).length c ∧ (ofN l).length ≤ c ∧ Kd.C (Kd.int .u8) wr A (ofN l).length (ofN l) := Kd.R_reads h.r
theorem By.c {w wr : World} {A : Option Addr} {m c : Nat} {l : List Nat} (h : By w wr (.slice A m c) l) : m = l.length ∧ m ≤ c ∧ Kd.C (Kd.int .u8) wr A m (ofN l) := by
  obtain ⟨e, hc, hC⟩ := Kd.R_reads' h.r
  rw [← e] at hC
  exact ⟨by rw [e, ofN_length], hc, hC⟩
theorem by_put {w wr : World} {A : Option Addr} {m c : Nat} {l : List Nat} (h : By w wr (.slice A m c) l) (n : Nat) (hn : n < 2 ^ 64) (hl : l.length < 1000000000) :
    Calls Try.prog 44 #[.slice A m c, .int .u64 (n : Int)] wr fun r w' => ∃ A1 m1 c1, r = .returned (.slice A1 m1 c1) ∧ By w w' (.slice A1 m1 c1) (l ++ vput n) := by
  obtain ⟨rfl, hc, hC⟩ := Kd.R_reads' h.r
  refine (varint_Put.calls 10 A c (ofN l) n _ wr hC hc (put 10 n (ofN l) hn (Nat.le_refl _) (by rw [ofN_length]; omega))).mono ?_
  rintro r w' ⟨v, rfl, hR, hB⟩
  obtain ⟨A1, m1, c1, rfl, -⟩ := R_sl hR
  rw [← ofN_append] at hR
  exact ⟨A1, m1, c1, rfl, Kd.R_lower hR h.o.size, h.o.trans (Only.of_below hB (fun k hk _ => hk))⟩
theorem by_first (w wr : World) (ho : Only (fun _ => False) w wr) (n : Nat) (hn : n < 2 ^ 64) :
    Calls Try.prog 44 #[.slice none 0 0, .int .u64 (n : Int)] wr fun r w' => ∃ A1 m1 c1, r = .returned (.slice A1 m1 c1) ∧ By w w' (.slice A1 m1 c1) (vput n) := by
  have := by_put (w := w) (wr := wr) (A := none) (m := 0) (c := 0) (l := []) ⟨Kd.R_nil _ _ _ _ _, ho⟩ n hn (by simp)
  simpa using this
theorem by_rput (w wr : World) (ho : Only (fun _ => False) w wr) (n : Nat) (hn : n < 2 ^ 64) :
    Calls Try.prog 45 #[.int .u64 (n : Int)] wr fun r w' => ∃ A1 m1 c1, r = .returned (.slice A1 m1 c1) ∧ By w w' (.slice A1 m1 c1) (vput n) ∧ Only (fun _ => False) wr w' := by
  refine (tallyroomref01_Put.calls 10 n _ wr (rput 10 n hn (Nat.le_refl _))).mono ?_
  rintro r w' ⟨v, rfl, hR, hB⟩
  obtain ⟨A1, m1, c1, rfl, -⟩ := R_sl hR
  have hO : Only (fun _ => False) wr w' := Only.of_below hB (fun k hk _ => hk)
  exact ⟨A1, m1, c1, rfl, ⟨Kd.R_lower hR ho.size, ho.trans hO⟩, hO⟩
set_option maxHeartbeats 8000000 in
set_option maxRecDepth 1000000 in
theorem bytes_walk (w : World) (N B base : Nat) (b : Option Nat) (L : List ByteArray) (hg : IsT w base N B b L) (hs : ∀ s ∈ L, s.size ≤ 5000) :
    Calls Try.prog 18 #[.pointer (some ⟨N, 0, none⟩)] w fun r w' => ∃ A m c, r = .returned (.slice A m c) ∧ By w w' (.slice A m c) (enc L) := by
  obtain ⟨v, hr, he, _⟩ := hg.ev
  obtain ⟨A, c, rfl, hc, hC⟩ := Kd.R_reads he
  have hfew := hg.few
  have hHead := Aside0.mk hr
  have c0 := (hr 0 _ rfl).1
  have hC := Aside0.mk hC
  have hS := Aside0.mk hs
  have hLw : IntKind.u64.wrap (L.length : Int) = (L.length : Int) := IntWalk.u64_in _ (by omega)
  clear hs he hg
  go_enter Try.func18, Try.ntmps18
  go_wp2_with (go_at_call 44; refine (by_first w _ (Only.refl _ w) L.length (by omega)).mono ?_; rintro r w1 ⟨A1, m1, c1, rfl, H⟩; have c0 := (hHead.out.only H.o id 0 _ rfl).1; replace H := Aside0.mk H)
  go_loopg [3, 20] (L.length + 1) (fun kq v3 v20 wr => ∃ (i : Nat) (A1 : Option Addr) (m1 c1 : Nat), v3 = .slice A1 m1 c1 ∧ v20 = .int .i64 (i : Int) ∧ i ≤ L.length ∧ L.length - i < kq ∧ Aside0 (By w wr (.slice A1 m1 c1) (encI L i)))
  case atStart => exact ⟨0, _, _, _, rfl, rfl, by omega, by omega, by rw [show encI L 0 = vput L.length by simp [encI]]; exact H⟩
  case round =>
    clear H c0
    obtain ⟨i, A1, m1, c1, rfl, rfl, hi, hk, H⟩ := hrel
    obtain ⟨k1, rfl⟩ : ∃ m, gk = m + 1 := ⟨gk - 1, by omega⟩
    by_cases hil : i < L.length
    · have hil' : (i : Int) < (L.length : Int) := by omega
      have hi0 : (0 : Int) ≤ (i : Int) := by omega
      obtain ⟨ad, e, hx⟩ := str_at (Kd.C_below hC.out H.out.below) i hil
      cases e
      have hsz := hS.out _ (List.getElem_mem hil)
      have hen := Aside0.mk (encI_next L i hil)
      have hlen := encI_length L i (by omega) hS.out
      have hlen2 : 10 + 5010 * i ≤ 30000000 := by omega
      generalize L[i] = s at hx hsz hen
      have hsw : IntKind.u64.wrap (s.size : Int) = (s.size : Int) := IntWalk.u64_in _ (by omega)
      go_wp2_with (first
        | (go_at_call 44; refine (by_put H.out s.size (by omega) (by omega)).mono ?_; rintro r w2 ⟨A2, m2, c2, rfl, H2⟩; replace H2 := Aside0.mk H2)
        | ((with_reducible refine gate_builtin (b := .append) (xs := #[.tmp 28, .tmp 29]) rfl ?_); at_builtin; refine R_append_str (w0 := w) w.heap.size rfl (.tmp 28) (.tmp 29) 32 9 5 rfl Try.underlying32 Try.underlying9 (by kernel_rfl) (.slice A2 m2 c2) (encI L i ++ vput s.size) s rfl rfl H2.out.r H2.out.below H2.out.o.size (by rw [List.length_append]; have := vput_length_le s.size (by omega); omega) ?_; intro v3 w3 hR3 hB3; obtain ⟨A3, m3, c3, rfl, -⟩ := R_sl hR3; have H3 := Aside0.mk (By.mk hR3 (Only.of_below hB3 (fun k hk _ => hk))); clear hR3 hB3))
      go_roundg k1
      case measure => omega
      case rel => exact ⟨i + 1, _, _, _, rfl, rfl, by omega, by omega, ⟨by rw [hen.out]; exact H3.out⟩⟩
    · obtain rfl : i = L.length := by omega
      have hE := Aside0.mk (show By w wr (.slice A1 m1 c1) (enc L) by rw [← encI_all]; exact H.out)
      clear H
      go_wp2
      go_ret
      exact ⟨A1, m1, c1, rfl, hE.out⟩
set_option maxHeartbeats 8000000 in
set_option maxRecDepth 1000000 in
theorem rbytes_walk (w : World) (A : Option Addr) (c : Nat) (L : List ByteArray) (hC : Kd.C Kd.string w A L.length L) (hc : L.length ≤ c) (hfew : L.length ≤ 4096) (hs : ∀ s ∈ L, s.size ≤ 5000) :
    Calls Try.prog 19 #[.slice A L.length c] w fun r w' => ∃ A m c, r = .returned (.slice A m c) ∧ By w w' (.slice A m c) (enc L) := by
  have hC := Aside0.mk hC
  have hS := Aside0.mk hs
  have hLw : IntKind.u64.wrap (L.length : Int) = (L.length : Int) := IntWalk.u64_in _ (by omega)
  clear hs
  go_enter Try.func19, Try.ntmps19
  go_wp2_with (go_at_call 45; refine (by_rput w _ (Only.refl _ w) L.length (by omega)).mono ?_; rintro r w1 ⟨A1, m1, c1, rfl, H, _⟩; replace H := Aside0.mk H)
  go_loopg [3, 4] (L.length + 1) (fun kq v3 v20 wr => ∃ (i : Nat) (A1 : Option Addr) (m1 c1 : Nat), v3 = .slice A1 m1 c1 ∧ v20 = .int .i64 (i : Int) ∧ i ≤ L.length ∧ L.length - i < kq ∧ Aside0 (By w wr (.slice A1 m1 c1) (encI L i)))
  case atStart => exact ⟨0, _, _, _, rfl, rfl, by omega, by omega, by rw [show encI L 0 = vput L.length by simp [encI]]; exact H⟩
  case round =>
    clear H
    obtain ⟨i, A1, m1, c1, rfl, rfl, hi, hk, H⟩ := hrel
    obtain ⟨k1, rfl⟩ : ∃ m, gk = m + 1 := ⟨gk - 1, by omega⟩
    by_cases hil : i < L.length
    · have hil' : (i : Int) < (L.length : Int) := by omega
      have hi0 : (0 : Int) ≤ (i : Int) := by omega
      obtain ⟨ad, e, hx⟩ := str_at (Kd.C_below hC.out H.out.below) i hil
      cases e
      have hX := Aside0.mk (fun W (h : Only (fun _ => False) w W) => str_at (Kd.C_below hC.out (h.below (fun _ e => e.elim) (Nat.le_refl _))) i hil)
      have hsz := hS.out _ (List.getElem_mem hil)
      have hen := Aside0.mk (encI_next L i hil)
      have hlen := encI_length L i (by omega) hS.out
      have hlen2 : 10 + 5010 * i ≤ 30000000 := by omega
      generalize L[i] = s at hx hsz hen hX
      have hsw : IntKind.u64.wrap (s.size : Int) = (s.size : Int) := IntWalk.u64_in _ (by omega)
      go_wp2_with (first
        | (go_at_call 45; refine (by_rput w _ H.out.o s.size (by omega)).mono ?_; rintro r w2 ⟨A2, m2, c2, rfl, H2, ho2⟩; replace H := Aside0.mk (By.mk (Kd.R_below H.out.r (ho2.below (fun _ e => e.elim) (Nat.le_refl _))) (H.out.o.trans ho2)); replace H2 := Aside0.mk H2; clear ho2)
        | ((with_reducible refine gate_builtin (b := .append) (xs := #[.tmp 15, .tmp 22]) rfl ?_); at_builtin; refine Kd.R_append_rows (Kd.int .u8) (w0 := w) w.heap.size rfl (.tmp 15) (.tmp 22) 32 5 (.int .u8 0) 1 rfl Try.underlying32 (by kernel_rfl) rfl (by decide) (by omega) (.slice A1 m1 c1) (ofN (encI L i)) (ofN (vput s.size)) _ _ _ (fun _ => True) (fun _ => False) rfl rfl H.out.r H2.out.c.2.2 (fun _ _ h => h) (fun _ h => h.elim) (fun _ _ => trivial) H.out.below H.out.o.size (by rw [ofN_length]; have := vput_length_le s.size (by omega); have := H2.out.c.1; omega) ?_; intro v3 w3 hR3 hB3 _ _; rw [← ofN_append] at hR3; obtain ⟨A3, m3, c3, rfl, -⟩ := R_sl hR3; have H3 := Aside0.mk (By.mk hR3 (Only.of_below hB3 (fun k hk _ => hk))); obtain ⟨ad', e', hx⟩ := hX.out _ H3.out.o; cases e'; clear hR3 hB3 H H2)
        | ((with_reducible refine gate_builtin (b := .append) (xs := #[.tmp 24, .tmp 28]) rfl ?_); at_builtin; refine R_append_str (w0 := w) w.heap.size rfl (.tmp 24) (.tmp 28) 32 9 5 rfl Try.underlying32 Try.underlying9 (by kernel_rfl) (.slice A3 m3 c3) (encI L i ++ vput s.size) s rfl rfl H3.out.r H3.out.below H3.out.o.size (by rw [List.length_append]; have := vput_length_le s.size (by omega); omega) ?_; intro v3 w4 hR3 hB3; obtain ⟨A4, m4, c4, rfl, -⟩ := R_sl hR3; have H4 := Aside0.mk (By.mk hR3 (Only.of_below hB3 (fun k hk _ => hk))); clear hR3 hB3))
      go_roundg k1
      case measure => omega
      case rel => exact ⟨i + 1, _, _, _, rfl, rfl, by omega, by omega, ⟨by rw [hen.out]; exact H4.out⟩⟩
    · obtain rfl : i = L.length := by omega
      have hE := Aside0.mk (show By w wr (.slice A1 m1 c1) (enc L) by rw [← encI_all]; exact H.out)
      clear H
      go_wp2
      go_ret
      exact ⟨A1, m1, c1, rfl, hE.out⟩
end Go.Proofs.Ytfgpcoocbblkiaa.St
