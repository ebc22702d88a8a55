/- What the statements' makers give: Values, Moves. -/
import Derived.Test.YtkdpdlboggggoaaGreatDoorBa
namespace Go.Proofs.YtkdpdlboggggoaaGreatDoor
open Go.RowKit

set_option maxRecDepth 100000 in
theorem Values_any (n : Int) (many : Nat) (w : World) (hm : many ≤ 1000) :
    Calls Tryz.prog 11 #[.int .i64 n, .int .i64 many] w fun e w' => ∃ (A : Option Addr) (c : Nat) (bs : List Bool), e = .returned (.slice A many c) ∧ bs.length = many ∧
      w'.ownsRow w.heap.size 4 1 (.slice A many c) many (bs.map .bool) ∧ Below w.heap.size w w' := by
  obtain ⟨i0, hi, hz0, hz1, hz2⟩ := info_parts info_bool
  go_enter Tryz.func11, Tryz.ntmps11
  go_wp2
  go_loopw [5, 6] (fun v i wr => ∃ (k : Nat) (bs : List Bool) (A : Option Addr) (c : Nat), k ≤ many ∧ i = .int .i64 k ∧ bs.length = k ∧ v = .slice A k c ∧ wr.ownsRow w.heap.size 4 1 (.slice A k c) k (bs.map .bool) ∧ Below w.heap.size w wr)
    (fun _ i _ => many - (intOf i).toNat)
  case atStart => exact ⟨0, [], none, 0, Nat.zero_le _, rfl, rfl, rfl, own_nil' _ _ _, Below.refl _ _⟩
  case round =>
    obtain ⟨k, bs, A, c, hk, rfl, hbs, rfl, hown, hb⟩ := hrel
    have hbs' := Lib.hid hbs
    clear hbs
    by_cases hlt : k < many
    · go_wp2_with (at_builtin; refine app_one rfl (.tmp 12) (.tmp 20) 29 4 rfl i0 _ 1 Tryz.underlying29 hi hz0 hz1 hz2 rfl _ _ _ _ rfl _ _ rfl hown rfl rfl (by omega) (by omega) hb.size ?_; intro A' c' w1 hown1 hg1 hat1)
      have hb1 := below_app hb hb.size hown (Nat.le_refl _) hg1
      clear hat1 hg1 hown hb
      go_wp2
      go_roundw
      case rel => exact ⟨k + 1, bs ++ [_], A', c', by omega, by go_num, by simp [hbs'.out], rfl, by rw [List.map_append]; exact hown1, hb1⟩
      case measure => simp [intOf]; omega
    · obtain rfl : k = many := by omega
      go_wp2
      go_ret
      exact ⟨A, c, bs, rfl, hbs'.out, hown, hb⟩

set_option maxRecDepth 100000 in
theorem Moves_any (A0 : Option Addr) (n c0 : Nat) (zs : List Int) (many : Nat) (w : World) (hn : zs.length = n) (hn2 : n ≤ 1000) (hz : Sl w w.heap.size A0 (zs.map (Value.int .i64))) (hm : many ≤ 1000) :
    Calls Tryz.prog 6 #[.slice A0 n c0, .int .i64 many] w fun e w' => ∃ (A : Option Addr) (c : Nat) (vs : List Value) (rows : List (List Bool)), e = .returned (.slice A n c) ∧
      w'.ownsRow w.heap.size 29 1 (.slice A n c) n vs ∧ BRows w' 4 vs rows ∧ (∀ r ∈ rows, r.length = many) ∧ Below w.heap.size w w' := by
  obtain ⟨i0, hi, hz0, hz1, hz2⟩ := info_parts info_bools
  have hn' := Lib.hid hn
  clear hn
  go_enter Tryz.func6, Tryz.ntmps6
  go_wp2
  go_loopw [5, 6] (fun v i wr => ∃ (k : Nat) (vs : List Value) (rows : List (List Bool)) (A : Option Addr) (c : Nat), k ≤ n ∧ i = .int .i64 k ∧ v = .slice A k c ∧ wr.ownsRow w.heap.size 29 1 (.slice A k c) k vs ∧
      BRows wr 4 vs rows ∧ (∀ r ∈ rows, r.length = many) ∧ Below w.heap.size w wr)
    (fun _ i _ => n - (intOf i).toNat)
  case atStart => exact ⟨0, [], [], none, 0, Nat.zero_le _, rfl, rfl, own_nil' _ _ _, BRows.nil _ _, by simp, Below.refl _ _⟩
  case round =>
    obtain ⟨k, vs, rows, A, c, hk, rfl, rfl, hown, hrows, hlen, hb⟩ := hrel
    have hrows' := Lib.hid hrows
    have hlen' := Lib.hid hlen
    have hz' := Lib.hid hz
    clear hrows hlen hz
    by_cases hlt : k < n
    · obtain ⟨ad, rfl, hab, hcell⟩ := hz'.out.at_ (k := k) (by simp [hn'.out]; exact hlt)
      have hcell' : wr.cell? (ad.add k) = some (.int .i64 (zs[k]'(by rw [hn'.out]; exact hlt))) := by
        rw [hb.cell (by rw [add_block]; exact hab), hcell]; simp
      clear hcell
      go_wp2_with fail
      refine (Values_any _ many _ hm).mono ?_
      rintro e w1 ⟨A1, c1, bs, rfl, hbs, hown1, hb1⟩
      have hbs' := Lib.hid hbs
      clear hbs
      have hown2 : w1.ownsRow w.heap.size 29 1 (.slice A k c) k vs := by
        refine hown.kept (row := none) ⟨hb1.os, hb1.tape, hb1.output, hb1.size, fun j hj _ => hb1.block j hj⟩ ?_
        cases hv : (Value.slice A k c).ownBlock <;> simp
      have hbb : Below w.heap.size w w1 := hb.trans (hb1.mono hb.size)
      clear hcell'
      go_wp2_with (at_builtin; refine app_one rfl (.tmp 13) (.tmp 20) 25 29 rfl i0 _ 24 Tryz.underlying25 hi hz0 hz1 hz2 rfl _ _ _ _ rfl _ _ rfl hown2 rfl rfl (by omega) (by omega) hbb.size ?_; intro A' c' w2 hown3 hg1 hat1)
      have hb2 := below_app hbb hbb.size hown2 (Nat.le_refl _) hg1
      have hr2 : BRows w2 4 (vs ++ [.slice A1 many c1]) (rows ++ [bs]) := by
        refine (((hrows'.out.below hb1).snoc ⟨A1, c1, by rw [hbs'.out], SlT.own hown1⟩).alloc _).grown hg1 ?_
        intro g hg
        rw [tyAt_own (hown2.alloc _) hg]
        decide
      have hr2' := Lib.hid hr2
      clear hat1 hg1 hown hown1 hown2 hb hb1 hbb hr2
      go_wp2
      go_roundw
      case rel => exact ⟨k + 1, _, _, A', c', by omega, by go_num, rfl, hown3, hr2'.out, by intro r hr; rcases List.mem_append.1 hr with h | h; exact hlen'.out r h; simp at h; subst h; exact hbs'.out, hb2⟩
      case measure => simp [intOf]; omega
    · obtain rfl : k = n := by omega
      go_wp2
      go_ret
      exact ⟨A, c, vs, rows, rfl, hown, hrows'.out, hlen'.out, hb⟩

end Go.Proofs.YtkdpdlboggggoaaGreatDoor
