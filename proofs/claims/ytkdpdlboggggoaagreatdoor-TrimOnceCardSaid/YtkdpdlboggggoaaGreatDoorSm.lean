/- The statements' own comparing: SameBools, SameMoves; Number. -/
import Derived.Test.YtkdpdlboggggoaaGreatDoorOn
namespace Go.Proofs.YtkdpdlboggggoaaGreatDoor
open Go.RowKit

set_option maxRecDepth 100000 in
theorem SameBools_any (A1 A2 : Option Addr) (n1 c1 n2 c2 : Nat) (xs ys : List Bool) (w : World) (h1 : xs.length = n1) (h2 : ys.length = n2) (hl1 : n1 ≤ 1000000) (hl2 : n2 ≤ 1000000)
    (s1 : Sl w w.heap.size A1 (xs.map .bool)) (s2 : Sl w w.heap.size A2 (ys.map .bool)) :
    Calls Tryz.prog 8 #[.slice A1 n1 c1, .slice A2 n2 c2] w fun e w' => e = .returned (.bool (decide (xs = ys))) ∧ ∃ q, w' = w.drewN q := by
  have h1' := Lib.hid h1
  have h2' := Lib.hid h2
  have s1' := Lib.hid s1
  have s2' := Lib.hid s2
  by_cases hn : n1 = n2
  · subst hn
    clear h1 h2 s1 s2
    go_enter Tryz.func8, Tryz.ntmps8
    go_wp2
    go_loopw [5, 6] (fun i _ wr => ∃ (k q : Nat), k ≤ n1 ∧ i = .int .i64 k ∧ xs.take k = ys.take k ∧ wr = w.drewN q) (fun i _ _ => n1 - (intOf i).toNat)
    case atStart => exact ⟨0, 0, Nat.zero_le _, rfl, rfl, rfl⟩
    case round =>
      obtain ⟨k, q, hk, rfl, htk, rfl⟩ := hrel
      have htk' := Lib.hid htk
      clear htk
      by_cases hlt : k < n1
      · obtain ⟨a1, rfl, hb1, hc1⟩ := s1'.out.at_ (k := k) (by simp [h1'.out]; exact hlt)
        obtain ⟨a2, rfl, hb2, hc2⟩ := s2'.out.at_ (k := k) (by simp [h2'.out]; exact hlt)
        have hx : k < xs.length := by rw [h1'.out]; exact hlt
        have hy : k < ys.length := by rw [h2'.out]; exact hlt
        simp only [List.getElem_map] at hc1 hc2
        have hx' := Lib.hid hx
        have hy' := Lib.hid hy
        generalize hu : xs[k] = u at hc1
        generalize hv : ys[k] = v at hc2
        have hu' := Lib.hid hu
        have hv' := Lib.hid hv
        clear hu hv hx hy hb1 hb2
        by_cases huv : u = v
        · subst huv
          go_wp2
          go_quiet (fail)
          go_wp2
          exact ⟨⟨k + 1, _, by omega, by go_num, take_next htk'.out hx'.out hy'.out (hu'.out.trans hv'.out.symm), rfl⟩, by simp [intOf]; omega⟩
        · have hne : (u == v) = false := by simpa using huv
          have hd : decide (xs = ys) = false := by
            rw [decide_eq_false_iff_not]
            rintro rfl
            exact huv (hu'.out.symm.trans hv'.out)
          have hd' := Lib.hid hd
          clear hd huv
          go_wp2
          go_quiet (fail)
          go_wp2
          go_ret
          exact ⟨by rw [hd'.out]; rfl, _, rfl⟩
      · obtain rfl : k = n1 := by omega
        have hd : decide (xs = ys) = true := by
          rw [decide_eq_true_iff]
          have := htk'.out
          rwa [List.take_of_length_le (by rw [h1'.out]; exact Nat.le_refl _), List.take_of_length_le (by rw [h2'.out]; exact Nat.le_refl _)] at this
        have hd' := Lib.hid hd
        clear hd
        go_wp2
        go_ret
        exact ⟨by rw [hd'.out]; rfl, _, rfl⟩
  · have hd : decide (xs = ys) = false := by
      rw [decide_eq_false_iff_not]
      rintro rfl
      exact hn (h1.symm.trans h2)
    have hd' := Lib.hid hd
    have hn' : ((n1 : Int) != (n2 : Int)) = true := by rw [bne_iff_ne]; omega
    clear hd h1 h2 s1 s2
    go_enter Tryz.func8, Tryz.ntmps8
    go_wp2
    go_ret
    exact ⟨by rw [hd'.out]; rfl, 0, rfl⟩

set_option maxRecDepth 100000 in
theorem SameMoves_eq (A1 A2 : Option Addr) (n c1 c2 : Nat) (vs ws : List Value) (rows : List (List Bool)) (w : World) (hn : rows.length = n) (hl : n ≤ 1000000) (hrl : ∀ r ∈ rows, r.length ≤ 1000000)
    (s1 : Sl w w.heap.size A1 vs) (s2 : Sl w w.heap.size A2 ws) (r1 : BRows w 4 vs rows) (r2 : BRows w 4 ws rows) :
    Calls Tryz.prog 9 #[.slice A1 n c1, .slice A2 n c2] w fun e w' => e = .returned (.bool true) ∧ ∃ q, w' = w.drewN q := by
  have hn' := Lib.hid hn
  have hrl' := Lib.hid hrl
  have s1' := Lib.hid s1
  have s2' := Lib.hid s2
  have r1' := Lib.hid r1
  have r2' := Lib.hid r2
  clear hn hrl s1 s2 r1 r2
  go_enter Tryz.func9, Tryz.ntmps9
  go_wp2
  go_loopw [5, 6] (fun i _ wr => ∃ (k q : Nat), k ≤ n ∧ i = .int .i64 k ∧ wr = w.drewN q) (fun i _ _ => n - (intOf i).toNat)
  case atStart => exact ⟨0, 0, Nat.zero_le _, rfl, rfl⟩
  case round =>
    obtain ⟨k, q, hk, rfl, hwr⟩ := hrel
    have hwr' := Lib.hid hwr
    clear hwr
    by_cases hlt : k < n
    · have hkr : k < rows.length := by rw [hn'.out]; exact hlt
      obtain ⟨a1, rfl, hb1, hc1⟩ := s1'.out.at_ (k := k) (by rw [r1'.out.1]; exact hkr)
      obtain ⟨a2, rfl, hb2, hc2⟩ := s2'.out.at_ (k := k) (by rw [r2'.out.1]; exact hkr)
      obtain ⟨B1, d1, e1, t1⟩ := r1'.out.at_ hkr
      obtain ⟨B2, d2, e2, t2⟩ := r2'.out.at_ hkr
      rw [List.getElem?_eq_getElem (by rw [r1'.out.1]; exact hkr)] at e1
      rw [List.getElem?_eq_getElem (by rw [r2'.out.1]; exact hkr)] at e2
      injection e1 with e1
      injection e2 with e2
      have hc1' : wr.cell? (a1.add k) = some (.slice B1 (rows[k]).length d1) := by rw [hwr'.out, ← e1]; exact hc1
      have hc2' : wr.cell? (a2.add k) = some (.slice B2 (rows[k]).length d2) := by rw [hwr'.out, ← e2]; exact hc2
      have hkl := hrl'.out _ (List.getElem_mem hkr)
      have H := Lib.hid (fun q' => SameBools_any B1 B2 (rows[k]).length d1 (rows[k]).length d2 rows[k] rows[k] (wr.drewN q') rfl rfl hkl hkl (by rw [hwr'.out]; exact t1.sl) (by rw [hwr'.out]; exact t2.sl))
      have hd : decide (rows[k] = rows[k]) = true := by simp
      rw [hd] at H
      generalize (rows[k]).length = m at *
      clear hb1 hb2 hc1 hc2 e1 e2 t1 t2 hkl hkr hd
      go_wp2_with fail
      go_quiet ((go_at_call 8; exact Calls.quiet_of (H.out _)))
      go_wp2_with fail
      exact ⟨⟨k + 1, _, by omega, by go_num, by rw [hwr'.out]; exact World.drewN_drewN _ _ _⟩, by simp [intOf]; omega⟩
    · obtain rfl : k = n := by omega
      go_wp2
      go_ret
      exact ⟨rfl, q, hwr'.out⟩

theorem neg_emod_pos (m b : Int) (hb : 0 < b) (h : m % b ≠ 0) : (-m) % b = b - m % b := by
  have h1 := Int.emod_nonneg m (Int.ne_of_gt hb)
  have h2 := Int.emod_lt_of_pos m hb
  have h3 := Int.mul_ediv_add_emod m b
  have e : -m = (b - m % b) + b * (-(m / b) - 1) := by
    have : b * (-(m / b) - 1) = -(b * (m / b)) - b := by rw [Int.mul_sub, Int.mul_neg, Int.mul_one]
    omega
  rw [e, Int.add_mul_emod_self_left]
  exact Int.emod_eq_of_lt (by omega) (by omega)

theorem tmod_pos (n b : Int) (h : 0 ≤ n) : n.tmod b = n % b := Int.tmod_eq_emod_of_nonneg h
theorem tmod_neg (n b : Int) (h : n < 0) : n.tmod b = -((-n) % b) := by
  have e : n = -(-n) := by omega
  conv => lhs; rw [e]
  rw [Int.neg_tmod, Int.tmod_eq_emod_of_nonneg (by omega)]

theorem num_lo (n b : Int) (hb : 0 < b) (h : n.tmod b < 0) : n % b = n.tmod b + b ∧ -b < n.tmod b := by
  rcases Int.lt_or_le n 0 with hn | hn
  · rw [tmod_neg n b hn] at h ⊢
    have h2 := Int.emod_lt_of_pos (-n) hb
    have e := neg_emod_pos (-n) b hb (by omega)
    rw [Int.neg_neg] at e
    omega
  · rw [tmod_pos n b hn] at h
    have := Int.emod_nonneg n (Int.ne_of_gt hb)
    omega

theorem num_hi (n b : Int) (hb : 0 < b) (h : 0 ≤ n.tmod b) : n % b = n.tmod b := by
  rcases Int.lt_or_le n 0 with hn | hn
  · rw [tmod_neg n b hn] at h ⊢
    have h2 := Int.emod_nonneg (-n) (Int.ne_of_gt hb)
    have h3 : (-n) % b = 0 := by omega
    have h4 : b ∣ n := by have := Int.dvd_of_emod_eq_zero h3; exact Int.dvd_neg.1 this
    rw [Int.emod_eq_zero_of_dvd h4]
    omega
  · rw [tmod_pos n b hn]

theorem ret_int' {k : IntKind} {a b : Int} (h : a = b) : Ending.returned (.int k a) = .returned (.int k b) := by rw [h]

theorem Number_any (n below : Int) (w : World) (h0 : 0 < below) (h1 : below ≤ 2000000000000000) (hn : -9223372036854775807 ≤ n + 1) (hn2 : n ≤ 9223372036854775807) :
    Calls Tryz.prog 5 #[.int .i64 n, .int .i64 below] w fun e w' => e = .returned (.int .i64 (n % below)) ∧ w = w' := by
  go_enter Tryz.func5, Tryz.ntmps5
  go_wp2
  · have h : n.tmod below < 0 := by assumption
    obtain ⟨e, hlo⟩ := num_lo n below h0 h
    go_ret
    exact ⟨ret_int' (by rw [e]; show wrap64 _ = _; unfold wrap64; omega), rfl⟩
  · have h : 0 ≤ n.tmod below := by assumption
    have e := num_hi n below h0 h
    go_ret
    exact ⟨ret_int' e.symm, rfl⟩

end Go.Proofs.YtkdpdlboggggoaaGreatDoor
