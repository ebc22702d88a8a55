/- Moves each once: trim.Once and the statement's own comparing. -/
import Derived.Test.YtkdpdlboggggoaaGreatDoorMk
import Derived.Deep.QuietTactic
import Derived.BigQuiet
import Derived.Deep.LoopGhost
namespace Go.Proofs.YtkdpdlboggggoaaGreatDoor
open Go.RowKit

theorem below_drewN' {B : Nat} {a w : World} (h : Below B a w) (n : Nat) : Below B a (w.drewN n) := ⟨h.os, h.tape, h.output, h.size, h.block⟩

theorem take_next {α : Type} {xs ys : List α} {k : Nat} (h : xs.take k = ys.take k) (hx : k < xs.length) (hy : k < ys.length) (e : xs[k] = ys[k]) : xs.take (k + 1) = ys.take (k + 1) := by
  rw [List.take_succ_eq_append_getElem hx, List.take_succ_eq_append_getElem hy, h, e]

set_option maxRecDepth 100000 in
theorem EqualB_any (A1 A2 : Option Addr) (n1 c1 n2 c2 : Nat) (xs ys : List Bool) (w : World) (h1 : xs.length = n1) (h2 : ys.length = n2) (hl1 : n1 ≤ 1000000) (hl2 : n2 ≤ 1000000)
    (s1 : Sl w w.heap.size A1 (xs.map .bool)) (s2 : Sl w w.heap.size A2 (ys.map .bool)) :
    Calls Tryz.prog 20 #[.slice A1 n1 c1, .slice A2 n2 c2] w fun e w' => e = .returned (.bool (decide (xs = ys))) ∧ ∃ q, w' = w.drewN q := by
  have h1' := Lib.hid h1
  have h2' := Lib.hid h2
  have s1' := Lib.hid s1
  have s2' := Lib.hid s2
  by_cases hn : n1 = n2
  · subst hn
    clear h1 h2 s1 s2
    go_enter Tryz.func20, Tryz.ntmps20
    go_wp2
    go_loopw [5, 13] (fun _ i wr => ∃ (k q : Nat), k ≤ n1 ∧ i = .int .i64 k ∧ xs.take k = ys.take k ∧ wr = w.drewN q) (fun _ i _ => n1 - (intOf i).toNat)
    case atStart => exact ⟨0, 0, Nat.zero_le _, rfl, rfl, rfl⟩
    case round =>
      obtain ⟨k, q, hk, rfl, htk, rfl⟩ := hrel
      have htk' := Lib.hid htk
      clear htk
      by_cases hlt : k < n1
      · obtain ⟨a1, rfl, hb1, hc1⟩ := s1'.out.at_ (k := k) (by simp [h1'.out]; exact hlt)
        obtain ⟨a2, rfl, hb2, hc2⟩ := s2'.out.at_ (k := k) (by simp [h2'.out]; exact hlt)
        have hx : k < xs.length := by rw [h1'.out]; exact hlt
        have hy : k < ys.length := by rw [h2'.out]; exact hlt
        simp only [List.getElem_map] at hc1 hc2
        have hx' := Lib.hid hx
        have hy' := Lib.hid hy
        generalize hu : xs[k] = u at hc1
        generalize hv : ys[k] = v at hc2
        have hu' := Lib.hid hu
        have hv' := Lib.hid hv
        clear hu hv hx hy hb1 hb2
        by_cases huv : u = v
        · subst huv
          go_wp2
          go_quiet (fail)
          go_wp2
          exact ⟨⟨k + 1, _, by omega, by go_num, take_next htk'.out hx'.out hy'.out (hu'.out.trans hv'.out.symm), rfl⟩, by simp [intOf]; omega⟩
        · have hne : (u == v) = false := by simpa using huv
          have hd : decide (xs = ys) = false := by
            rw [decide_eq_false_iff_not]
            rintro rfl
            exact huv (hu'.out.symm.trans hv'.out)
          have hd' := Lib.hid hd
          clear hd huv
          go_wp2
          go_quiet (fail)
          go_wp2
          go_ret
          exact ⟨by rw [hd'.out]; rfl, _, World.drewN_drewN _ _ _⟩
      · obtain rfl : k = n1 := by omega
        have hd : decide (xs = ys) = true := by
          rw [decide_eq_true_iff]
          have := htk'.out
          rwa [List.take_of_length_le (by rw [h1'.out]; exact Nat.le_refl _), List.take_of_length_le (by rw [h2'.out]; exact Nat.le_refl _)] at this
        have hd' := Lib.hid hd
        clear hd
        go_wp2
        go_ret
        exact ⟨by rw [hd'.out]; rfl, _, rfl⟩
  · have hd : decide (xs = ys) = false := by
      rw [decide_eq_false_iff_not]
      rintro rfl
      exact hn (h1.symm.trans h2)
    have hd' := Lib.hid hd
    have hn' : ((n1 : Int) != (n2 : Int)) = true := by rw [bne_iff_ne]; omega
    clear hd h1 h2 s1 s2
    go_enter Tryz.func20, Tryz.ntmps20
    go_wp2
    go_ret
    exact ⟨by rw [hd'.out]; rfl, 0, rfl⟩

theorem same_any (A1 A2 : Option Addr) (n1 c1 n2 c2 : Nat) (xs ys : List Bool) (w : World) (h1 : xs.length = n1) (h2 : ys.length = n2) (hl1 : n1 ≤ 1000000) (hl2 : n2 ≤ 1000000)
    (s1 : Sl w w.heap.size A1 (xs.map .bool)) (s2 : Sl w w.heap.size A2 (ys.map .bool)) :
    Calls Tryz.prog 14 #[.slice A1 n1 c1, .slice A2 n2 c2] w fun e w' => e = .returned (.bool (decide (xs = ys))) ∧ ∃ q, w' = w.drewN q := by
  have H := Lib.hid (EqualB_any A1 A2 n1 c1 n2 c2 xs ys w h1 h2 hl1 hl2 s1 s2)
  generalize decide (xs = ys) = r at H ⊢
  clear h1 h2 s1 s2
  go_enter Tryz.func14, Tryz.ntmps14
  go_wp2_with (go_at_call 20; refine H.out.mono ?_; rintro e w' ⟨rfl, q, rfl⟩)
  go_ret
  exact ⟨rfl, _, rfl⟩

theorem once1_any (bx : Nat) (A1 A2 : Option Addr) (n1 c1 n2 c2 : Nat) (xs ys : List Bool) (w : World) (h1 : xs.length = n1) (h2 : ys.length = n2) (hl1 : n1 ≤ 1000000) (hl2 : n2 ≤ 1000000)
    (s1 : Sl w w.heap.size A1 (xs.map .bool)) (s2 : Sl w w.heap.size A2 (ys.map .bool)) (hbx : w.cell? ⟨bx, 0, none⟩ = some (.slice A1 n1 c1)) :
    Calls Tryz.prog 13 #[.slice A2 n2 c2, .pointer (some ⟨bx, 0, none⟩)] w fun e w' => e = .returned (.bool (decide (xs = ys))) ∧ ∃ q, w' = w.drewN q := by
  have H := Lib.hid (same_any A1 A2 n1 c1 n2 c2 xs ys w h1 h2 hl1 hl2 s1 s2)
  generalize decide (xs = ys) = r at H ⊢
  clear h1 h2 s1 s2
  go_enter Tryz.func13, Tryz.ntmps13
  go_wp2_with (go_at_call 14; refine H.out.mono ?_; rintro e w' ⟨rfl, q, rfl⟩)
  go_ret
  exact ⟨rfl, _, rfl⟩

set_option maxRecDepth 100000 in
theorem onceIdx (bx : Nat) (A1 : Option Addr) (n1 c1 : Nat) (x : List Bool) (A : Option Addr) (n c : Nat) (vs : List Value) (rows : List (List Bool)) (w : World) (h1 : x.length = n1) (hl1 : n1 ≤ 1000000) (hrl : ∀ r ∈ rows, r.length ≤ 1000000)
    (hn : vs.length = n) (hn2 : n ≤ 1000000) (s1 : Sl w w.heap.size A1 (x.map .bool)) (hv : Sl w w.heap.size A vs) (hr : BRows w 4 vs rows) (hbx : w.cell? ⟨bx, 0, none⟩ = some (.slice A1 n1 c1)) :
    Calls Tryz.prog 19 #[.slice A n c, .func (.func 13) #[] #[.pointer (some ⟨bx, 0, none⟩)]] w fun e w' =>
      (∃ i : Int, e = .returned (.int .i64 i) ∧ -1 ≤ i ∧ i ≤ 1000000 ∧ (0 ≤ i ↔ x ∈ rows)) ∧ ∃ q, w' = w.drewN q := by
  have h1' := Lib.hid h1
  have hn' := Lib.hid hn
  have s1' := Lib.hid s1
  have hv' := Lib.hid hv
  have hr' := Lib.hid hr
  have hrl' := Lib.hid hrl
  clear h1 hn s1 hv hr hrl
  go_enter Tryz.func19, Tryz.ntmps19
  go_wp2_with fail
  go_loopw [5, 8] (fun _ i wr => ∃ (k q : Nat), k ≤ n ∧ i = .int .i64 k ∧ (∀ j (h : j < rows.length), j < k → rows[j] ≠ x) ∧ wr = w.drewN q) (fun _ i _ => n - (intOf i).toNat)
  case atStart => exact ⟨0, 0, Nat.zero_le _, rfl, fun j _ hj => absurd hj (Nat.not_lt_zero _), rfl⟩
  case round =>
    obtain ⟨k, q, hk, rfl, hno, rfl⟩ := hrel
    have hno' := Lib.hid hno
    clear hno
    by_cases hlt : k < n
    · obtain ⟨ad, rfl, hab, hcell⟩ := hv'.out.at_ (k := k) (by rw [hn'.out]; exact hlt)
      have hkr : k < rows.length := by rw [← hr'.out.1, hn'.out]; exact hlt
      obtain ⟨A2, c2, hvk, hs2⟩ := hr'.out.at_ hkr
      have hcell' : w.cell? (ad.add k) = some (.slice A2 (rows[k]).length c2) := by
        rw [hcell]; rw [List.getElem?_eq_getElem (by rw [hn'.out]; exact hlt)] at hvk; exact hvk
      have hkl : (rows[k]).length ≤ 1000000 := hrl'.out _ (List.getElem_mem hkr)
      have hkr' := Lib.hid hkr
      have hs2' := Lib.hid hs2
      generalize hm : (rows[k]).length = m at hcell' hkl
      generalize hy : rows[k] = y at *
      have hm' := Lib.hid hm
      have hy' := Lib.hid hy
      clear hcell hvk hs2 hkr hm hy
      go_wp2_with fail
      refine (once1_any bx A1 A2 n1 c1 m c2 x y (w.drewN q) h1'.out hm'.out hl1 hkl s1'.out hs2'.out.sl hbx).mono ?_
      rintro e w' ⟨rfl, q', rfl⟩
      by_cases hxy : x = y
      · have hd : decide (x = y) = true := decide_eq_true hxy
        have hxy' := Lib.hid hxy
        clear hxy
        go_wp2_with fail
        go_ret
        exact ⟨⟨k, rfl, by omega, by omega, fun _ => by rw [hxy'.out, ← hy'.out]; exact List.getElem_mem _, fun _ => by omega⟩, _, rfl⟩
      · have hd : decide (x = y) = false := decide_eq_false hxy
        have hxy' := Lib.hid hxy
        clear hxy
        go_wp2_with fail
        exact ⟨⟨k + 1, _, by omega, by go_num, fun j hj hjk => by
          rcases Nat.lt_or_ge j k with hl | hl
          · exact hno'.out j hj hl
          · obtain rfl : j = k := by omega
            exact fun e => hxy'.out (e.symm.trans hy'.out), rfl⟩, by simp [intOf]; omega⟩
    · obtain rfl : k = n := by omega
      go_wp2_with fail
      go_ret
      refine ⟨⟨-1, rfl, by omega, by omega, fun h => by omega, fun h => ?_⟩, _, rfl⟩
      obtain ⟨j, hj, e⟩ := List.getElem_of_mem h
      exact absurd e (hno'.out j hj (by rw [← hn'.out, hr'.out.1]; exact hj))

theorem onceHas (bx : Nat) (A1 : Option Addr) (n1 c1 : Nat) (x : List Bool) (A : Option Addr) (n c : Nat) (vs : List Value) (rows : List (List Bool)) (w : World) (h1 : x.length = n1) (hl1 : n1 ≤ 1000000) (hrl : ∀ r ∈ rows, r.length ≤ 1000000)
    (hn : vs.length = n) (hn2 : n ≤ 1000000) (s1 : Sl w w.heap.size A1 (x.map .bool)) (hv : Sl w w.heap.size A vs) (hr : BRows w 4 vs rows) (hbx : w.cell? ⟨bx, 0, none⟩ = some (.slice A1 n1 c1)) :
    Calls Tryz.prog 12 #[.slice A n c, .func (.func 13) #[] #[.pointer (some ⟨bx, 0, none⟩)]] w fun e w' =>
      e = .returned (.bool (decide (x ∈ rows))) ∧ ∃ q, w' = w.drewN q := by
  have H := Lib.hid (onceIdx bx A1 n1 c1 x A n c vs rows w h1 hl1 hrl hn hn2 s1 hv hr hbx)
  clear h1 hrl hn s1 hv hr hbx
  go_enter Tryz.func12, Tryz.ntmps12
  go_wp2_with fail
  refine H.out.mono ?_
  rintro e w' ⟨⟨i, rfl, hi1, hi2, hiff⟩, q, rfl⟩
  have hd : decide (x ∈ rows) = decide (0 ≤ i) := by by_cases h : 0 ≤ i <;> simp [h, ← hiff]
  have hd' := Lib.hid hd
  clear hd hiff
  go_wp2_with fail
  go_ret
  exact ⟨by rw [hd'.out]; rfl, _, rfl⟩

end Go.Proofs.YtkdpdlboggggoaaGreatDoor
