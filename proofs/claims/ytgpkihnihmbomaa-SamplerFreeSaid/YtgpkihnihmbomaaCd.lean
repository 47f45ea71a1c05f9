/- span.Attr in plain words. No conditions but bounds. -/
import Derived.Test.YtgpkihnihmbomaaBx
import Derived.Test.YtgpkihnihmbomaaXSsx0
namespace Go.Proofs.Ytgpkihnihmbomaa.Cd
open Go.RowKit Go.Proofs.YtgpkihnihmbomaaW.PrintWords Go.Proofs.YtgpkihnihmbomaaW.PrintLast
open Go.Proofs.Ytgpkihnihmbomaa.Ob Go.Proofs.Ytgpkihnihmbomaa.Two Go.Proofs.Ytgpkihnihmbomaa.Bx
set_option linter.unusedSimpArgs false
set_option linter.unusedVariables false
abbrev E := Go.Proofs.Ytgpkihnihmbomaa.XSs.S126
abbrev K51 := Go.Proofs.Ytgpkihnihmbomaa.XSs.k126
theorem toList_inj {x y : ByteArray} (h : x.toList = y.toList) : x = y := by
  rw [ByteArray.toList_eq, ByteArray.toList_eq] at h
  cases x; cases y
  simp only at h
  congr 1
  exact Array.toList_inj.1 h
theorem toList_ne {x y : ByteArray} (h : ¬ x = y) : ¬ x.toList = y.toList := fun k => h (toList_inj k)
def ix (l : List E) (q : ByteArray) : Option Nat := l.findIdx? (fun y => decide (y.f0 = q))
def ixI (l : List E) (q : ByteArray) : Int := match ix l q with | some i => (i : Int) | none => -1
theorem ix_none {l : List E} {q : ByteArray} (h : ∀ j, ∀ hj : j < l.length, l[j].f0 ≠ q) : ixI l q = -1 := by
  have : ix l q = none := by
    unfold ix
    rw [List.findIdx?_eq_none_iff]
    intro x hx
    obtain ⟨j, hj, rfl⟩ := List.mem_iff_getElem.1 hx
    simpa using h j hj
  unfold ixI
  rw [this]
theorem ix_some {l : List E} {q : ByteArray} (i : Nat) (hi : i < l.length) (h : ∀ j, j < i → ∀ hj : j < l.length, l[j].f0 ≠ q) (h2 : l[i].f0 = q) : ixI l q = (i : Int) := by
  have : ix l q = some i := by
    unfold ix
    rw [List.findIdx?_eq_some_iff_getElem]
    exact ⟨hi, by simpa using h2, fun j hj => by simpa using h j hj (by omega)⟩
  unfold ixI
  rw [this]
theorem rd_at (l : List E) (i : Nat) (h : i < l.length) : XSs.rd_T126 l (i : Int) = l[i] := by
  unfold XSs.rd_T126
  rw [Int.toNat_natCast, List.getD_eq_getElem?_getD, List.getElem?_eq_getElem h]; rfl
set_option maxHeartbeats 4000000 in
set_option maxRecDepth 1000000 in
theorem key68_w (x : E) (b : Nat) (q : ByteArray) (w : World) (hq : w.cell? ⟨b, 0, none⟩ = some (.string q)) : Calls Try.prog 80 #[.agg #[.string (x).f0, .int .i64 (x).f1.f0, .int .i64 (x).f1.f1, .string (x).f1.f2], .pointer (some ⟨b, 0, none⟩)] w fun e w' => e = .returned (.bool (decide (x.f0 = q))) ∧ Below w.heap.size w w' := by
  have hT := Aside0.mk ((Bx.start w).new [.string x.f0, .int .i64 x.f1.f0, .int .i64 x.f1.f1, .string x.f1.f2] 126)
  obtain ⟨y0, z0⟩ := hT.out.row (List.mem_cons_self ..) 0 _ rfl
  have hb := World.block_lt_of_cell? w _ hq
  have hq2 : (w.alloc (.cells #[.string x.f0, .int .i64 x.f1.f0, .int .i64 x.f1.f1, .string x.f1.f2] 126)).cell? ⟨b, 0, none⟩ = some (.string q) := by
    have h3 := ((Below.refl w.heap.size w).alloc (Nat.le_refl _) (.cells #[.string x.f0, .int .i64 x.f1.f0, .int .i64 x.f1.f1, .string x.f1.f2] 126)).block b hb
    unfold World.cell? at hq ⊢
    rw [h3]; exact hq
  by_cases e : x.f0 = q
  · have e2 : x.f0.toList = q.toList := by rw [e]
    rw [decide_eq_true e]
    clear e
    go_enter Try.func80, Try.ntmps80
    go_wp2
    go_ret
    exact ⟨by first | rfl | simp, hT.out.b⟩
  · have e2 := toList_ne e
    rw [decide_eq_false e]
    clear e
    go_enter Try.func80, Try.ntmps80
    go_wp2
    go_ret
    exact ⟨by first | rfl | simp [e2], hT.out.b⟩
set_option maxHeartbeats 4000000 in
set_option maxRecDepth 1000000 in
theorem index68_w (w : World) (A : Option Addr) (n c : Nat) (l : List E) (b : Nat) (q : ByteArray) (r : Int) (hr : ixI l q = r) (hC : Kd.C K51 w A n l) (hn : n ≤ 1000) (hq : w.cell? ⟨b, 0, none⟩ = some (.string q)) :
    Calls Try.prog 79 #[.slice A n c, .func (.func 80) #[] #[.pointer (some ⟨b, 0, none⟩)]] w fun e w' => e = .returned (.int .i64 r) ∧ Below w.heap.size w w' := by
  have hl : l.length = n := hC.1
  have hb := Aside0.mk (World.block_lt_of_cell? w _ hq)
  have HB := Aside0.mk (Below.refl w.heap.size w)
  replace hl := Aside0.mk hl
  replace hC := Aside0.mk hC
  replace hq := Aside0.mk hq
  replace hr := Aside0.mk hr
  go_enter Try.func79, Try.ntmps79
  go_wp2
  go_loopg [8] (n + 1) (fun kq v8 wr => ∃ i : Nat, v8 = .int .i64 (i : Int) ∧ i ≤ n ∧ n - i < kq ∧ Aside0 (∀ j, j < i → ∀ hj : j < l.length, l[j].f0 ≠ q) ∧ Aside0 (Below w.heap.size w wr))
  case atStart => exact ⟨0, rfl, Nat.zero_le _, by omega, ⟨fun j h => absurd h (by omega)⟩, HB⟩
  case round =>
    clear HB
    obtain ⟨i, rfl, hi, hk, HR, HB⟩ := hrel
    obtain ⟨k1, rfl⟩ : ∃ m, gk = m + 1 := ⟨gk - 1, by omega⟩
    have hi0 : (0 : Int) ≤ (i : Int) := by omega
    by_cases hin : i < n
    · have hinI : (i : Int) < (n : Int) := by omega
      have hil : i < l.length := by rw [hl.out]; exact hin
      obtain ⟨ad, rfl, x0, x1, x2, x3⟩ := XSs.at_T126 (Kd.C_below hC.out HB.out) (i : Int) hi0 (by exact hinI)
      rw [rd_at l i hil, Int.toNat_natCast] at x0 x1 x2 x3
      have hq2 : wr.cell? ⟨b, 0, none⟩ = some (.string q) := by
        have h3 := HB.out.block b hb.out
        have h4 := hq.out
        unfold World.cell? at h4 ⊢
        rw [h3]; exact h4
      by_cases e : l[i].f0 = q
      · have hd : decide (l[i].f0 = q) = true := decide_eq_true e
        have he := Aside0.mk (show (i : Int) = r by rw [← hr.out]; exact (ix_some i hil HR.out e).symm)
        clear e
        generalize l[i] = x at x0 x1 x2 x3 hd
        replace hd := Aside0.mk hd
        go_wp2_with (go_at_call 80; refine (key68_w x b q _ hq2).mono ?_; rintro e w2 ⟨rfl, hb2⟩; rw [hd.out])
        go_ret
        exact ⟨by rw [← he.out]; rfl, HB.out.trans (hb2.mono HB.out.size)⟩
      · have hd : decide (l[i].f0 = q) = false := decide_eq_false e
        have HR2 := Aside0.mk (show ∀ j, j < i + 1 → ∀ hj : j < l.length, l[j].f0 ≠ q from fun j h hj => by
          by_cases e2 : j = i
          · subst e2; exact e
          · exact HR.out j (by omega) hj)
        clear e HR
        generalize l[i] = x at x0 x1 x2 x3 hd
        replace hd := Aside0.mk hd
        go_wp2_with (go_at_call 80; refine (key68_w x b q _ hq2).mono ?_; rintro e w2 ⟨rfl, hb2⟩; rw [hd.out])
        go_roundg k1
        case measure => omega
        case rel => exact ⟨i + 1, by first | rfl | simp, by omega, by omega, HR2, ⟨HB.out.trans (hb2.mono HB.out.size)⟩⟩
    · have e1 : i = n := by omega
      have hinI : ¬ (i : Int) < (n : Int) := by omega
      have he := Aside0.mk (show (-1 : Int) = r by rw [← hr.out]; exact (ix_none (fun j hj => HR.out j (by have := hl.out; omega) hj)).symm)
      clear hk e1
      go_wp2
      go_ret
      exact ⟨by rw [← he.out]; rfl, HB.out⟩
theorem results_at2 {P : Program} {fn : Func} {p u : Tmp} {ty : TypeId} (h : fn.results = #[.cell p ty, .tmp u]) (tmps : Array Value) (w : World) (g : Nat) (cs : List Value) (d : TypeDesc)
    (hp : tmps.getD p undef = .pointer (some ⟨g, 0, none⟩)) (hr : Row w g cs) (hu : P.underlying ty = some d) (hd : (match d with | .struct _ | .array _ _ => true | _ => false) = true) (hi : (P.info? ty).map (·.size) = some cs.length) :
    (results fn tmps).run P w = .ok (.tuple #[.agg cs.toArray, tmps.getD u undef]) w := by
  have hp' : tmps[p]?.getD undef = .pointer (some ⟨g, 0, none⟩) := by simpa using hp
  simp [results, h, hp', asAddr, loadVar_at w g 0 ty cs d (row_at0 hr) hu hd hi]
/-- The value of the first with a key. -/
def attrV (l : List E) (q : ByteArray) : Option XSs.S50 := (l.find? (fun y => decide (y.f0 = q))).map (·.f1)
theorem attr_none {l : List E} {q : ByteArray} (h : attrV l q = none) : ixI l q = -1 := by
  unfold attrV at h
  rw [Option.map_eq_none_iff, List.find?_eq_none] at h
  refine ix_none (fun j hj => ?_)
  have := h l[j] (List.getElem_mem hj)
  simpa using this
theorem attr_some {l : List E} {q : ByteArray} {v : XSs.S50} (h : attrV l q = some v) : ∃ i, ∃ hi : i < l.length, ixI l q = (i : Int) ∧ l[i].f1 = v := by
  unfold attrV at h
  obtain ⟨x, hx, rfl⟩ := Option.map_eq_some_iff.1 h
  rw [List.find?_eq_some_iff_getElem] at hx
  obtain ⟨h1, i, hi, rfl, h2⟩ := hx
  exact ⟨i, hi, ix_some i hi (fun j hj hjl => by simpa using h2 j hj) (by simpa using h1), rfl⟩
set_option maxHeartbeats 16000000 in
set_option maxRecDepth 1000000 in
theorem attr_w0 (w : World) (a0 a1 a2 : Int) (a3 a4 : ByteArray) (a5 a6 a7 a8 : Int) (A : Option Addr) (n c : Nat) (l : List E) (q : ByteArray) (hv : attrV l q = none) (hC : Kd.C K51 w A n l) (hn : n ≤ 1000) :
    Calls Try.prog 70 #[.agg #[.int .u64 a0, .int .u64 a1, .int .u64 a2, .string a3, .string a4, .int .i64 a5, .int .i64 a6, .int .u64 a7, .int .u64 a8, .slice A n c], .string q] w fun e w' => e = .returned (.tuple #[.agg #[.int .i64 0, .int .i64 0, .string ⟨#[]⟩], .bool false]) ∧ Below w.heap.size w w' := by
  have hix := Aside0.mk (attr_none hv)
  clear hv
  have hT := Aside0.mk ((((Bx.start w).new [.int .u64 a0, .int .u64 a1, .int .u64 a2, .string a3, .string a4, .int .i64 a5, .int .i64 a6, .int .u64 a7, .int .u64 a8, .slice A n c] 70).new [.string q] 9).new [.int .i64 0, .int .i64 0, .string ⟨#[]⟩] 50)
  rw [size_alloc, size_alloc] at hT
  replace hC := Aside0.mk hC
  obtain ⟨y9, _⟩ := hT.out.row (g := w.heap.size) (cs := [.int .u64 a0, .int .u64 a1, .int .u64 a2, .string a3, .string a4, .int .i64 a5, .int .i64 a6, .int .u64 a7, .int .u64 a8, .slice A n c]) (by simp) 9 _ rfl
  go_enter Try.func70, Try.ntmps70
  go_wp2_with (first | (go_at_call 79; refine (index68_w _ A n c l (w.heap.size + 1) q _ hix.out (Kd.C_below hC.out hT.out.b) hn ((hT.out.row (g := w.heap.size + 1) (cs := [.string q]) (by simp) 0 _ rfl).1)).mono ?_; rintro e w2 ⟨rfl, hb2⟩; replace hT := Aside0.mk (hT.out.keep hb2); clear hb2 y9; obtain ⟨z0, z0f⟩ := hT.out.row (g := w.heap.size + 2) (cs := [.int .i64 0, .int .i64 0, .string ⟨#[]⟩]) (by simp) 0 _ rfl; obtain ⟨z1, z1f⟩ := hT.out.row (g := w.heap.size + 2) (cs := [.int .i64 0, .int .i64 0, .string ⟨#[]⟩]) (by simp) 1 _ rfl; obtain ⟨z2, z2f⟩ := hT.out.row (g := w.heap.size + 2) (cs := [.int .i64 0, .int .i64 0, .string ⟨#[]⟩]) (by simp) 2 _ rfl))
  have hr := hT.out.row (g := w.heap.size + 2) (cs := [.int .i64 0, .int .i64 0, .string ⟨#[]⟩]) (by simp)
  have hr2 := ((hr.set 0 (.int .i64 0)).set 1 (.int .i64 0)).set 2 (.string ⟨#[]⟩)
  refine bodyPost_ret (results_at2 rfl _ _ (w.heap.size + 2) [.int .i64 0, .int .i64 0, .string ⟨#[]⟩] _ rfl hr2 Try.underlying50 rfl (by kernel_rfl)) rfl ⟨rfl, ?_⟩
  exact ((hT.out.b.setCell (by show w.heap.size ≤ w.heap.size + 2; omega) _).setCell (by show w.heap.size ≤ w.heap.size + 2; omega) _).setCell (by show w.heap.size ≤ w.heap.size + 2; omega) _
set_option maxHeartbeats 16000000 in
set_option maxRecDepth 1000000 in
theorem attr_w1 (w : World) (a0 a1 a2 : Int) (a3 a4 : ByteArray) (a5 a6 a7 a8 : Int) (A : Option Addr) (n c : Nat) (l : List E) (q : ByteArray) (v : XSs.S50) (hv : attrV l q = some v) (hC : Kd.C K51 w A n l) (hn : n ≤ 1000) :
    Calls Try.prog 70 #[.agg #[.int .u64 a0, .int .u64 a1, .int .u64 a2, .string a3, .string a4, .int .i64 a5, .int .i64 a6, .int .u64 a7, .int .u64 a8, .slice A n c], .string q] w fun e w' => e = .returned (.tuple #[.agg #[.int .i64 v.f0, .int .i64 v.f1, .string v.f2], .bool true]) ∧ Below w.heap.size w w' := by
  obtain ⟨i, hil, hix, hvi⟩ := attr_some hv
  have hi : i < n := by have := hC.1; omega
  have hiI : (i : Int) < (n : Int) := by omega
  have hi0 : (0 : Int) ≤ (i : Int) := by omega
  replace hix := Aside0.mk hix
  clear hv
  have hT := Aside0.mk ((((Bx.start w).new [.int .u64 a0, .int .u64 a1, .int .u64 a2, .string a3, .string a4, .int .i64 a5, .int .i64 a6, .int .u64 a7, .int .u64 a8, .slice A n c] 70).new [.string q] 9).new [.int .i64 0, .int .i64 0, .string ⟨#[]⟩] 50)
  rw [size_alloc, size_alloc] at hT
  obtain ⟨ad, rfl, _⟩ := XSs.at_T126 hC (i : Int) hi0 hiI
  replace hC := Aside0.mk hC
  obtain ⟨y9, _⟩ := hT.out.row (g := w.heap.size) (cs := [.int .u64 a0, .int .u64 a1, .int .u64 a2, .string a3, .string a4, .int .i64 a5, .int .i64 a6, .int .u64 a7, .int .u64 a8, .slice (some ad) n c]) (by simp) 9 _ rfl
  go_enter Try.func70, Try.ntmps70
  go_wp2_with (first | (go_at_call 79; refine (index68_w _ (some ad) n c l (w.heap.size + 1) q _ hix.out (Kd.C_below hC.out hT.out.b) hn ((hT.out.row (g := w.heap.size + 1) (cs := [.string q]) (by simp) 0 _ rfl).1)).mono ?_; rintro e w2 ⟨rfl, hb2⟩; replace hT := Aside0.mk (hT.out.keep hb2); clear hb2 y9; obtain ⟨z0, z0f⟩ := hT.out.row (g := w.heap.size + 2) (cs := [.int .i64 0, .int .i64 0, .string ⟨#[]⟩]) (by simp) 0 _ rfl; obtain ⟨z1, z1f⟩ := hT.out.row (g := w.heap.size + 2) (cs := [.int .i64 0, .int .i64 0, .string ⟨#[]⟩]) (by simp) 1 _ rfl; obtain ⟨z2, z2f⟩ := hT.out.row (g := w.heap.size + 2) (cs := [.int .i64 0, .int .i64 0, .string ⟨#[]⟩]) (by simp) 2 _ rfl; obtain ⟨y9, _⟩ := hT.out.row (g := w.heap.size) (cs := [.int .u64 a0, .int .u64 a1, .int .u64 a2, .string a3, .string a4, .int .i64 a5, .int .i64 a6, .int .u64 a7, .int .u64 a8, .slice (some ad) n c]) (by simp) 9 _ rfl; obtain ⟨ad2, hade, x0, x1, x2, x3⟩ := XSs.at_T126 (Kd.C_below hC.out hT.out.b) (i : Int) hi0 hiI; obtain rfl := Option.some.inj hade; rw [rd_at l i hil, Int.toNat_natCast] at x0 x1 x2 x3; rw [hvi] at x1 x2 x3; clear x0))
  have hr := hT.out.row (g := w.heap.size + 2) (cs := [.int .i64 0, .int .i64 0, .string ⟨#[]⟩]) (by simp)
  have hr2 := ((hr.set 0 (.int .i64 v.f0)).set 1 (.int .i64 v.f1)).set 2 (.string v.f2)
  refine bodyPost_ret (results_at2 rfl _ _ (w.heap.size + 2) [.int .i64 v.f0, .int .i64 v.f1, .string v.f2] _ rfl hr2 Try.underlying50 rfl (by kernel_rfl)) rfl ⟨rfl, ?_⟩
  exact ((hT.out.b.setCell (by show w.heap.size ≤ w.heap.size + 2; omega) _).setCell (by show w.heap.size ≤ w.heap.size + 2; omega) _).setCell (by show w.heap.size ≤ w.heap.size + 2; omega) _
end Go.Proofs.Ytgpkihnihmbomaa.Cd
