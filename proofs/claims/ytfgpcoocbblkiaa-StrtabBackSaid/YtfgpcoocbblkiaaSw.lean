/- The document's Find, the example, and what shows a table. No conditions but bounds. -/
import Derived.Test.YtfgpcoocbblkiaaSu
import Derived.Test.YtfgpcoocbblkiaaXSvx3
import Derived.Test.YtfgpcoocbblkiaaXSvx8
namespace Go.Proofs.Ytfgpcoocbblkiaa.St
open Go.RowKit Go.Maps Go.ChangeMaps Go.MapKept Go.Proofs.YtfgpcoocbblkiaaW.PrintWords Go.Proofs.YtfgpcoocbblkiaaW.PrintLast
open Go.Proofs.Ytfgpcoocbblkiaa.Ob Go.Proofs.Ytfgpcoocbblkiaa.XSv Go.Proofs.Ytfgpcoocbblkiaa.Var
set_option linter.unusedSimpArgs false
set_option linter.unusedVariables false

def idxI (o : Option Nat) : Int := match o with | some i => (i : Int) | none => -1
theorem toList_data (s : ByteArray) : s.toList = s.data.toList := ByteArray.toList_eq s
theorem find_eq (L : List ByteArray) (s : ByteArray) (hl : L.length < 1000000) : ∀ m k i, i ≤ L.length → L.length - i = m → m < k →
    tallyroomref05_Find.l0 k L s (i : Int) = some (idxI (((L.drop i).findIdx? (fun t => t.data.toList == s.data.toList)).map (· + i))) := by
  intro m
  induction m with
  | zero =>
    intro k i hi hm hk
    obtain ⟨k, rfl⟩ : ∃ j, k = j + 1 := ⟨k - 1, by omega⟩
    rw [tallyroomref05_Find.l0, if_neg (by omega), List.drop_eq_nil_of_le (by omega)]
    rfl
  | succ m ih =>
    intro k i hi hm hk
    obtain ⟨k, rfl⟩ : ∃ j, k = j + 1 := ⟨k - 1, by omega⟩
    have hil : i < L.length := by omega
    have hrd : rdOf ByteArray.empty L (i : Int) = L[i] := by
      unfold rdOf
      rw [Int.toNat_natCast, List.getD_eq_getElem?_getD, List.getElem?_eq_getElem hil]; rfl
    have hw : wrap64 ((i : Int) + 1) = ((i + 1 : Nat) : Int) := by rw [IntWalk.wrap64_in _ (by omega)]; rfl
    rw [tallyroomref05_Find.l0, if_pos (by omega), if_pos (by omega), hrd, hw, List.drop_eq_getElem_cons hil, List.findIdx?_cons, toList_data, toList_data]
    by_cases e : (L[i]).data.toList = s.data.toList
    · rw [if_pos e]
      simp [e, idxI]
    · rw [if_neg e, ih k (i + 1) (by omega) (by omega) (by omega)]
      have : ((L[i]).data.toList == s.data.toList) = false := by simpa using e
      rw [this]
      simp only [Bool.false_eq_true, if_false, Option.map_map]
      congr 3
      funext x
      simp only [Function.comp]
      omega
theorem find_f (L : List ByteArray) (s : ByteArray) (hl : L.length < 10000) : tallyroomref05_Find.f 10001 L s = some (idxI (idx L s)) := by
  have := find_eq L s (by omega) L.length 10001 0 (Nat.zero_le _) rfl (by omega)
  unfold tallyroomref05_Find.f idx
  refine this.trans ?_
  simp
theorem by_eq {w wr : World} {A A2 : Option Addr} {m c m2 c2 : Nat} {l l2 : List Nat} (h : By w wr (.slice A m c) l) (h2 : By w wr (.slice A2 m2 c2) l2) (hb : ∀ x ∈ l, x ≤ 255) (hb2 : ∀ x ∈ l2, x ≤ 255) :
    Calls Try.prog 17 #[.slice A m c, .slice A2 m2 c2] wr fun r w' => r = .returned (.bool (decide (l = l2))) ∧ ∃ n, w' = wr.drewN n := by
  obtain ⟨rfl, hc, hC⟩ := Kd.R_reads' h.r
  obtain ⟨rfl, hc2, hC2⟩ := Kd.R_reads' h2.r
  refine (tallyroomref01_Bytes.calls A c (ofN l) A2 c2 (ofN l2) _ wr hC hc hC2 hc2 (bytes_eq hb hb2)).mono ?_
  rintro r w' ⟨rfl, n, rfl⟩
  exact ⟨rfl, n, rfl⟩
theorem txt_byte (s : ByteArray) : ∀ x ∈ txt s, x ≤ 255 := by
  unfold txt
  refine mem_app (vput_byte _) (fun x hx => ?_)
  obtain ⟨b, _, rfl⟩ := List.mem_map.1 hx
  have := b.toNat_lt
  omega
theorem enc_byte (L : List ByteArray) : ∀ x ∈ enc L, x ≤ 255 := by
  unfold enc
  refine mem_app (vput_byte _) (fun x hx => ?_)
  obtain ⟨s, _, h⟩ := List.mem_flatMap.1 hx
  exact txt_byte s x h
theorem By.keep {w wr w' : World} {v : Value} {l : List Nat} (h : By w wr v l) (k : Only (fun _ => False) wr w') : By w w' v l := ⟨Kd.R_below h.r (k.below (fun _ e => e.elim) (Nat.le_refl _)), h.o.trans k⟩
set_option maxHeartbeats 8000000 in
set_option maxRecDepth 1000000 in
theorem shows_walk (w : World) (N B base : Nat) (b : Option Nat) (L : List ByteArray) (A : Option Addr) (m c : Nat) (hg : IsT w base N B b L) (hC : Kd.C Kd.string w A m L) (hm : m = L.length) :
    Calls Try.prog 16 #[.pointer (some ⟨N, 0, none⟩), .slice A m c] w fun r w' => r = .returned (.bool true) ∧ w' = w := by
  have HG := Aside0.mk hg
  have HC := Aside0.mk hC
  have hfew := hg.few
  clear hg hC
  obtain ⟨n, hn⟩ : ∃ n, L.length = n := ⟨_, rfl⟩
  rw [hn] at hm hfew
  subst hm
  go_enter Try.func16, Try.ntmps16
  go_wp2_with (go_at_call 21; refine (len_walk _ N B base b L HG.out).mono ?_; rintro r w1 ⟨rfl, rfl⟩; rw [hn])
  go_loopg [5] (m + 3) (fun kq v5 wr => ∃ (y : Int), v5 = .int .i64 y ∧ -1 ≤ y ∧ y ≤ (m : Int) + 1 ∧ (m : Int) + 1 - y < kq ∧ wr = w1)
  case atStart => exact ⟨-1, rfl, by omega, by omega, by omega, rfl⟩
  case round =>
    obtain ⟨y, rfl, h0, h1, hk, rfl⟩ := hrel
    obtain ⟨k1, rfl⟩ : ∃ z, gk = z + 1 := ⟨gk - 1, by omega⟩
    by_cases hy : y ≤ (m : Int)
    · by_cases hy0 : 0 ≤ y
      · by_cases hym : y < (m : Int)
        · obtain ⟨i, rfl⟩ : ∃ i : Nat, y = (i : Int) := ⟨y.toNat, by omega⟩
          have hil : i < L.length := by omega
          obtain ⟨ad, e, hx⟩ := str_at HC.out i hil
          cases e
          have hat := Aside0.mk (at_walk _ N B base b L i HG.out hil)
          generalize L[i] = s at hx hat
          go_wp2_with (go_at_call 20; refine hat.out.mono ?_; rintro r w2 ⟨rfl, rfl⟩)
          go_roundg k1
          case measure => omega
          case rel => exact ⟨(i : Int) + 1, rfl, by omega, by omega, by omega, rfl⟩
        · go_wp2_with (go_at_call 20; refine (at_out _ N B base b L y HG.out (.inr (by omega))).mono ?_; rintro r w2 ⟨rfl, rfl⟩)
          go_roundg k1
          case measure => omega
          case rel => exact ⟨y + 1, rfl, by omega, by omega, by omega, rfl⟩
      · go_wp2_with (go_at_call 20; refine (at_out _ N B base b L y HG.out (.inl (by omega))).mono ?_; rintro r w2 ⟨rfl, rfl⟩)
        go_roundg k1
        case measure => omega
        case rel => exact ⟨y + 1, rfl, by omega, by omega, by omega, rfl⟩
    · go_wp2
      go_ret
      exact ⟨rfl, rfl⟩
end Go.Proofs.Ytfgpcoocbblkiaa.St
