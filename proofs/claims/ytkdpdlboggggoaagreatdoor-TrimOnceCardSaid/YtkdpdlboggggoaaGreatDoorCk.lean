/- graph.Check, cegar.Check of what is right. -/
import Derived.Test.YtkdpdlboggggoaaGreatDoorBa
namespace Go.Proofs.YtkdpdlboggggoaaGreatDoor
open Go.RowKit

/-- A slice of pairs of numbers: two cells an element. -/
def SlP (w : World) (B : Nat) (A : Option Addr) (xs : List (Int × Int)) : Prop :=
  xs ≠ [] → ∃ ad, A = some ad ∧ ad.block < B ∧ ∀ (k : Nat) (x : Int × Int), xs[k]? = some x → w.cell? (ad.add (k * 2)) = some (.int .i64 x.1) ∧ w.cell? ⟨(ad.add (k * 2)).block, (ad.add (k * 2)).off + 1, none⟩ = some (.int .i64 x.2)

theorem SlP.nil (w : World) (B : Nat) (A : Option Addr) : SlP w B A [] := fun h => absurd rfl h
theorem SlP.at_ {w : World} {B : Nat} {A : Option Addr} {xs : List (Int × Int)} (h : SlP w B A xs) {k : Nat} (hk : k < xs.length) :
    ∃ ad, A = some ad ∧ ad.block < B ∧ w.cell? (ad.add (k * 2)) = some (.int .i64 (xs[k]).1) ∧ w.cell? ⟨(ad.add (k * 2)).block, (ad.add (k * 2)).off + 1, none⟩ = some (.int .i64 (xs[k]).2) := by
  obtain ⟨ad, e, hb, hc⟩ := h (by intro e; rw [e] at hk; exact absurd hk (Nat.not_lt_zero _))
  exact ⟨ad, e, hb, hc k _ (List.getElem?_eq_getElem hk)⟩
theorem SlP.keep {w w' : World} {B : Nat} {A : Option Addr} {xs : List (Int × Int)} (h : SlP w B A xs) (hk : ∀ p : Addr, p.block < B → w'.cell? p = w.cell? p) : SlP w' B A xs := by
  intro hx
  obtain ⟨ad, e, hb, hc⟩ := h hx
  exact ⟨ad, e, hb, fun k x hx => ⟨(hk _ (by rw [add_block]; exact hb)).trans (hc k x hx).1, (hk _ (by show (ad.add (k * 2)).block < B; rw [add_block]; exact hb)).trans (hc k x hx).2⟩⟩
theorem SlP.below {w w' : World} {B : Nat} {A : Option Addr} {xs : List (Int × Int)} (h : SlP w B A xs) (hb : Below B w w') : SlP w' B A xs := h.keep fun _ hp => hb.cell hp
theorem SlP.more {w : World} {B B' : Nat} {A : Option Addr} {xs : List (Int × Int)} (h : SlP w B A xs) (hB : B ≤ B') : SlP w B' A xs := by
  intro hx
  obtain ⟨ad, e, hb, hc⟩ := h hx
  exact ⟨ad, e, by omega, hc⟩

theorem is_yes (l nodes : Int) (w : World) (h0 : 0 ≤ l) (h1 : l ≤ 2 * nodes + 1) (hn : nodes ≤ 1000000) :
    Calls Tryz.prog 61 #[.int .i64 l, .int .i64 nodes] w fun e w' => e = .returned (.bool true) ∧ w = w' := by
  have hn0 : -1 ≤ nodes := by omega
  go_enter Tryz.func61, Tryz.ntmps61
  go_wp2
  all_goals go_ret
  all_goals exact ⟨rfl, rfl⟩

/-- What P0 calls a right circuit, of numbers. -/
structure RightC (I : Nat) (ands : List (Int × Int)) (outs : List Int) : Prop where
  nodes : I + ands.length ≤ 8000
  gate : ∀ (k : Nat) (x : Int × Int), ands[k]? = some x → 0 ≤ x.2 ∧ x.2 ≤ x.1 ∧ x.1 ≤ 2 * (I + k) + 1
  out : ∀ l ∈ outs, 0 ≤ l ∧ l ≤ 2 * (I + ands.length) + 1

set_option maxRecDepth 100000 in
theorem graphCheck_ok (I : Nat) (ands : List (Int × Int)) (outs : List Int) (AA AO : Option Addr) (nA cA nO cO : Nat) (w : World) (hr : RightC I ands outs) (hA : ands.length = nA) (hO : outs.length = nO) (hO2 : nO ≤ 1000000)
    (sA : SlP w w.heap.size AA ands) (sO : Sl w w.heap.size AO (outs.map (Value.int .i64))) :
    Calls Tryz.prog 35 #[.agg #[.int .i64 I, .slice AA nA cA, .slice AO nO cO]] w fun e w' => e = .returned .nilIface ∧ Below w.heap.size w w' := by
  have hA' := Lib.hid hA
  have hO' := Lib.hid hO
  have sA' := Lib.hid sA
  have sO' := Lib.hid sO
  have hr' := Lib.hid hr
  have hIn : I + nA ≤ 8000 := by rw [← hA]; exact hr.nodes
  clear hA hO sA sO hr
  go_enter Tryz.func35, Tryz.ntmps35
  go_wp2
  go_loopw [3, 4, 5, 29] (fun _ _ _ i wr => ∃ k : Nat, k ≤ nA ∧ i = .int .i64 k ∧ Below w.heap.size w wr ∧ w.heap.size < wr.heap.size ∧ wr.heap[w.heap.size]? = some (.cells #[.int .i64 I, .slice AA nA cA, .slice AO nO cO] 38 (0, 0))) (fun _ _ _ i _ => nA - (intOf i).toNat)
  case atStart => exact ⟨0, Nat.zero_le _, rfl, (Below.refl _ _).alloc (Nat.le_refl _) _, by simp, heap_alloc_new w _⟩
  case round =>
    obtain ⟨k, hk, rfl, hb, hsz, hblk⟩ := hrel
    have hblk' := Lib.hid hblk
    clear hblk
    have hc0 : wr.cell? ⟨w.heap.size, 0, none⟩ = some (.int .i64 I) := cell_of_row wr _ 0 _ _ (0, 0) hblk'.out
    have hc2 : wr.cell? ⟨w.heap.size, 2, none⟩ = some (.slice AO nO cO) := cell_of_row wr _ 2 _ _ (0, 0) hblk'.out
    have hc1 : wr.cell? ⟨w.heap.size, 1, none⟩ = some (.slice AA nA cA) := cell_of_row wr _ 1 _ _ (0, 0) hblk'.out
    by_cases hlt : k < nA
    · have hka : k < ands.length := by rw [hA'.out]; exact hlt
      obtain ⟨ad, rfl, hab, h1, h2⟩ := sA'.out.at_ hka
      obtain ⟨g1, g2, g3⟩ := hr'.out.gate k _ (List.getElem?_eq_getElem hka)
      have h1' : wr.cell? (ad.add (k * 2)) = some (.int .i64 (ands[k]).1) := by rw [hb.cell (by rw [add_block]; exact hab)]; exact h1
      have h2' : wr.cell? ⟨(ad.add (k * 2)).block, (ad.add (k * 2)).off + 1, none⟩ = some (.int .i64 (ands[k]).2) := by rw [hb.cell (by show (ad.add (k * 2)).block < _; rw [add_block]; exact hab)]; exact h2
      generalize (ands[k]).1 = x at h1' g1 g2 g3
      generalize (ands[k]).2 = y at h2' g1 g2 g3
      clear h1 h2 hka hab
      go_wp2_with (go_at_call 61; refine (is_yes _ _ _ (by omega) (by omega) (by omega)).mono ?_; rintro e w' ⟨rfl, rfl⟩)
      exact ⟨⟨k + 1, by omega, by go_num, hb.alloc hb.size _, by simp; omega, (Below.heap_alloc _ _ _ hsz).trans hblk'.out⟩, by simp [intOf]; omega⟩
    · obtain rfl : k = nA := by omega
      go_wp2_with fail
      obtain ⟨wo, rfl⟩ : ∃ wo : World, wo = wr := ⟨_, rfl⟩
      go_loop [7, 62] (fun _ i => ∃ t : Nat, t ≤ nO ∧ i = .int .i64 t) (fun _ i => nO - (intOf i).toNat)
      case atStart => exact ⟨0, Nat.zero_le _, rfl⟩
      case round =>
        obtain ⟨t, ht, rfl⟩ := hrel
        by_cases hlt2 : t < nO
        · have hto : t < outs.length := by rw [hO'.out]; exact hlt2
          obtain ⟨ad, rfl, hab, h1⟩ := sO'.out.at_ (k := t) (by simpa using hto)
          obtain ⟨g1, g2⟩ := hr'.out.out _ (List.getElem_mem hto)
          have h1' : wo.cell? (ad.add t) = some (.int .i64 outs[t]) := by rw [hb.cell (by rw [add_block]; exact hab), h1]; simp
          rw [hA'.out] at g2
          generalize outs[t] = x at h1' g1 g2
          clear h1 hto hab
          go_wp2_with (go_at_call 61; refine (is_yes _ _ _ (by omega) (by omega) (by omega)).mono ?_; rintro e w' ⟨rfl, rfl⟩)
          exact ⟨⟨t + 1, by omega, by go_num⟩, by simp [intOf]; omega⟩
        · obtain rfl : t = nO := by omega
          go_wp2_with fail
          go_ret
          exact ⟨rfl, hb⟩

set_option maxRecDepth 100000 in
theorem cegarCheck_ok (ex : Bool) (outer I : Nat) (ands : List (Int × Int)) (out : Int) (AA AO : Option Addr) (nA cA cO : Nat) (w : World) (hr : RightC I ands [out]) (ho : outer ≤ I) (hA : ands.length = nA)
    (sA : SlP w w.heap.size AA ands) (sO : Sl w w.heap.size AO [.int .i64 out]) :
    Calls Tryz.prog 21 #[.agg #[.bool ex, .int .i64 outer, .int .i64 I, .slice AA nA cA, .slice AO 1 cO]] w fun e w' => e = .returned .nilIface ∧ Below w.heap.size w w' := by
  have hI : I ≤ 8000 := by have := hr.nodes; omega
  have H := Lib.hid (fun (W : World) (hW : Below w.heap.size w W) => graphCheck_ok I ands [out] AA AO nA cA 1 cO W hr hA rfl (by omega) ((sA.below hW).more hW.size) ((sO.below hW).more hW.size))
  clear hr hA sA sO
  go_enter Tryz.func21, Tryz.ntmps21
  go_wp2_with fail
  refine (H.out _ ((Below.refl _ _).alloc (Nat.le_refl _) _)).mono ?_
  rintro e w1 ⟨rfl, hb⟩
  have hb0 : Below w.heap.size w w1 := ((Below.refl _ _).alloc (Nat.le_refl _) _).trans (hb.mono (by simp))
  have hblk := (hb.block w.heap.size (by simp)).trans (heap_alloc_new w _)
  have hc1 : w1.cell? ⟨w.heap.size, 1, none⟩ = some (.int .i64 outer) := cell_of_row w1 _ 1 _ _ (0, 0) hblk
  have hc2 : w1.cell? ⟨w.heap.size, 2, none⟩ = some (.int .i64 I) := cell_of_row w1 _ 2 _ _ (0, 0) hblk
  have hc4 : w1.cell? ⟨w.heap.size, 4, none⟩ = some (.slice AO 1 cO) := cell_of_row w1 _ 4 _ _ (0, 0) hblk
  clear hblk hb
  go_wp2_with fail
  go_ret
  exact ⟨rfl, hb0⟩

end Go.Proofs.YtkdpdlboggggoaaGreatDoor
