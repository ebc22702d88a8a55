/- list.Right, trim.check of moves that are right. -/
import Derived.Test.YtkdpdlboggggoaaGreatDoorCk
namespace Go.Proofs.YtkdpdlboggggoaaGreatDoor
open Go.RowKit

theorem right1_ok (bx : Nat) (N : Nat) (A : Option Addr) (c : Nat) (w : World) (hN : N ≤ 1000000) (hbx : w.cell? ⟨bx, 0, none⟩ = some (.int .i64 N)) :
    Calls Tryz.prog 36 #[.slice A N c, .pointer (some ⟨bx, 0, none⟩)] w fun e w' => e = .returned (.bool false) ∧ w = w' := by
  go_enter Tryz.func36, Tryz.ntmps36
  go_wp2
  go_ret
  exact ⟨by simp, rfl⟩

set_option maxRecDepth 100000 in
theorem rightIdx (bx N : Nat) (A : Option Addr) (n c : Nat) (vs : List Value) (rows : List (List Bool)) (w : World) (hN : N ≤ 1000000) (hrl : ∀ r ∈ rows, r.length = N)
    (hn : vs.length = n) (hn2 : n ≤ 1000000) (hv : Sl w w.heap.size A vs) (hr : BRows w 4 vs rows) (hbx : w.cell? ⟨bx, 0, none⟩ = some (.int .i64 N)) :
    Calls Tryz.prog 19 #[.slice A n c, .func (.func 36) #[] #[.pointer (some ⟨bx, 0, none⟩)]] w fun e w' =>
      e = .returned (.int .i64 (-1)) ∧ w = w' := by
  have hn' := Lib.hid hn
  have hv' := Lib.hid hv
  have hr' := Lib.hid hr
  have hrl' := Lib.hid hrl
  clear hn hv hr hrl
  go_enter Tryz.func19, Tryz.ntmps19
  go_wp2_with fail
  go_loop [5, 8] (fun _ i => ∃ k : Nat, k ≤ n ∧ i = .int .i64 k) (fun _ i => n - (intOf i).toNat)
  case atStart => exact ⟨0, Nat.zero_le _, rfl⟩
  case round =>
    obtain ⟨k, hk, rfl⟩ := hrel
    by_cases hlt : k < n
    · obtain ⟨ad, rfl, hab, hcell⟩ := hv'.out.at_ (k := k) (by rw [hn'.out]; exact hlt)
      have hkr : k < rows.length := by rw [← hr'.out.1, hn'.out]; exact hlt
      obtain ⟨A2, c2, hvk, hs2⟩ := hr'.out.at_ hkr
      have hcell' : w.cell? (ad.add k) = some (.slice A2 N c2) := by
        rw [hcell]; rw [List.getElem?_eq_getElem (by rw [hn'.out]; exact hlt)] at hvk; rw [hvk, hrl'.out _ (List.getElem_mem hkr)]
      clear hcell hvk hs2 hkr
      go_wp2_with (go_at_call 36; refine (right1_ok bx N A2 c2 w hN hbx).mono ?_; rintro e w' ⟨rfl, rfl⟩)
      exact ⟨⟨k + 1, by omega, by go_num⟩, by simp [intOf]; omega⟩
    · obtain rfl : k = n := by omega
      go_wp2_with fail
      go_ret
      exact ⟨rfl, rfl⟩

theorem rightHas (bx N : Nat) (A : Option Addr) (n c : Nat) (vs : List Value) (rows : List (List Bool)) (w : World) (hN : N ≤ 1000000) (hrl : ∀ r ∈ rows, r.length = N)
    (hn : vs.length = n) (hn2 : n ≤ 1000000) (hv : Sl w w.heap.size A vs) (hr : BRows w 4 vs rows) (hbx : w.cell? ⟨bx, 0, none⟩ = some (.int .i64 N)) :
    Calls Tryz.prog 12 #[.slice A n c, .func (.func 36) #[] #[.pointer (some ⟨bx, 0, none⟩)]] w fun e w' =>
      e = .returned (.bool false) ∧ w = w' := by
  have H := Lib.hid (rightIdx bx N A n c vs rows w hN hrl hn hn2 hv hr hbx)
  clear hrl hn hv hr hbx
  go_enter Tryz.func12, Tryz.ntmps12
  go_wp2_with (go_at_call 19; refine H.out.mono ?_; rintro e w' ⟨rfl, rfl⟩)
  go_ret
  exact ⟨by simp, rfl⟩

theorem listRight_ok (ex : Bool) (outer I N : Nat) (vA vO : Value) (A : Option Addr) (n c : Nat) (vs : List Value) (rows : List (List Bool)) (w : World) (hI : I ≤ 8000) (ho : outer + N = I) (hrl : ∀ r ∈ rows, r.length = N)
    (hn : vs.length = n) (hn2 : n ≤ 1000000) (hv : SlT w 29 A vs) (hr : BRows w 4 vs rows) (hA : ∃ a n c, vA = .slice a n c) (hO : ∃ a n c, vO = .slice a n c) :
    Calls Tryz.prog 22 #[.agg #[.bool ex, .int .i64 outer, .int .i64 I, vA, vO], .slice A n c] w fun e w' => e = .returned (.bool true) ∧ Below w.heap.size w w' := by
  obtain ⟨aA, nA, cA, rfl⟩ := hA
  obtain ⟨aO, nO, cO, rfl⟩ := hO
  have H := Lib.hid (fun (W : World) (hW : Below w.heap.size w W) bx hbx => rightHas bx N A n c vs rows W (by omega) hrl hn hn2 ((hv.below hW).sl) (hr.below hW) hbx)
  have hle : outer ≤ I := by omega
  have hs : (I : Int) - (outer : Int) = N := by omega
  have hs' := Lib.hid hs
  clear hrl hn hv hr ho hs
  go_enter Tryz.func22, Tryz.ntmps22
  go_wp2_with fail
  rw [hs'.out]
  refine (H.out _ (((Below.refl _ _).alloc (Nat.le_refl _) _).alloc (by simp) _) (w.heap.size + 1) ?_).mono ?_
  · simp
  rintro e w1 ⟨rfl, rfl⟩
  go_wp2_with fail
  go_ret
  exact ⟨by simp, ((Below.refl _ _).alloc (Nat.le_refl _) _).alloc (by simp) _⟩

theorem trimCheck_ok (ex : Bool) (outer I N : Nat) (ands : List (Int × Int)) (out : Int) (AA AO : Option Addr) (nA cA cO : Nat) (A : Option Addr) (n c : Nat) (vs : List Value) (rows : List (List Bool)) (w : World)
    (hr : RightC I ands [out]) (ho : outer + N = I) (hA : ands.length = nA) (sA : SlP w w.heap.size AA ands) (sO : Sl w w.heap.size AO [.int .i64 out])
    (hrl : ∀ r ∈ rows, r.length = N) (hn : vs.length = n) (hn2 : n ≤ 1000000) (hv : SlT w 29 A vs) (hrows : BRows w 4 vs rows) :
    Calls Tryz.prog 16 #[.agg #[.bool ex, .int .i64 outer, .int .i64 I, .slice AA nA cA, .slice AO 1 cO], .slice A n c] w fun e w' => e = .returned .nilIface ∧ Below w.heap.size w w' := by
  have hI : I ≤ 8000 := by have := hr.nodes; omega
  have H1 := Lib.hid (fun (W : World) (hW : Below w.heap.size w W) => cegarCheck_ok ex outer I ands out AA AO nA cA cO W hr (by omega) hA ((sA.below hW).more hW.size) ((sO.below hW).more hW.size))
  have H2 := Lib.hid (fun (W : World) (hW : Below w.heap.size w W) => listRight_ok ex outer I N (.slice AA nA cA) (.slice AO 1 cO) A n c vs rows W hI ho hrl hn hn2 (hv.below hW) (hrows.below hW) ⟨_, _, _, rfl⟩ ⟨_, _, _, rfl⟩)
  clear hr ho hA sA sO hrl hn hv hrows
  go_enter Tryz.func16, Tryz.ntmps16
  go_wp2_with fail
  refine (H1.out _ ((Below.refl _ _).alloc (Nat.le_refl _) _)).mono ?_
  rintro e w1 ⟨rfl, hb⟩
  have hb0 : Below w.heap.size w w1 := ((Below.refl _ _).alloc (Nat.le_refl _) _).trans (hb.mono (by simp))
  have hblk := (hb.block w.heap.size (by simp)).trans (heap_alloc_new w _)
  have hc0 : w1.cell? ⟨w.heap.size, 0, none⟩ = some (.bool ex) := cell_of_row w1 _ 0 _ _ (0, 0) hblk
  have hc1 : w1.cell? ⟨w.heap.size, 1, none⟩ = some (.int .i64 outer) := cell_of_row w1 _ 1 _ _ (0, 0) hblk
  have hc2 : w1.cell? ⟨w.heap.size, 2, none⟩ = some (.int .i64 I) := cell_of_row w1 _ 2 _ _ (0, 0) hblk
  have hc3 : w1.cell? ⟨w.heap.size, 3, none⟩ = some (.slice AA nA cA) := cell_of_row w1 _ 3 _ _ (0, 0) hblk
  have hc4 : w1.cell? ⟨w.heap.size, 4, none⟩ = some (.slice AO 1 cO) := cell_of_row w1 _ 4 _ _ (0, 0) hblk
  clear hblk hb
  go_wp2_with fail
  refine (H2.out _ hb0).mono ?_
  rintro e w2 ⟨rfl, hb2⟩
  go_wp2_with fail
  go_ret
  exact ⟨rfl, hb0.trans (hb2.mono hb0.size)⟩

end Go.Proofs.YtkdpdlboggggoaaGreatDoor
