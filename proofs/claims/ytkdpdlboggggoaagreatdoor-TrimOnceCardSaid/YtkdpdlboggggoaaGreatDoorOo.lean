/- slices.Clone at []bool; trim.Once. -/
import Derived.Test.YtkdpdlboggggoaaGreatDoorOn
namespace Go.Proofs.YtkdpdlboggggoaaGreatDoor
open Go.RowKit

set_option maxRecDepth 100000 in
theorem CloneB_any (A : Option Addr) (n c : Nat) (xs : List Bool) (w : World) (h1 : xs.length = n) (hl1 : n ≤ 1000000) (s1 : Sl w w.heap.size A (xs.map .bool)) :
    Calls Tryz.prog 15 #[.slice A n c] w fun e w' => ∃ A' c', e = .returned (.slice A' n c') ∧ SlT w' 4 A' (xs.map .bool) ∧ Below w.heap.size w w' := by
  have hnil := fun (w : World) (a : Option Addr) (l c : Nat) => Lib.run_eql_slice_nil (P := Tryz.prog) w 29 4 a l c 0 0 Tryz.underlying29
  obtain ⟨i0, hi, hz0, hz1, hz2⟩ := info_parts info_bool
  have h1' := Lib.hid h1
  have s1' := Lib.hid s1
  clear s1
  cases A with
  | none =>
    have hx : xs = [] := by
      cases xs with
      | nil => rfl
      | cons x l =>
        obtain ⟨ad, e, _⟩ := s1'.out (by simp)
        cases e
    subst hx
    obtain rfl : n = 0 := by simpa using h1.symm
    clear h1
    go_enter Tryz.func15, Tryz.ntmps15
    go_wp2_with fail
    go_ret
    exact ⟨none, 0, rfl, SlT.nil _ _ _, Below.refl _ _⟩
  | some ad =>
    clear h1
    go_enter Tryz.func15, Tryz.ntmps15
    have hcells : ∀ W : World, Below w.heap.size w W → ∀ j u, (xs.map Value.bool)[j]? = some u → W.cell? (ad.add j) = some u := by
      intro W hb j u hu
      have hne : xs.map Value.bool ≠ [] := by intro e; rw [e] at hu; simp at hu
      obtain ⟨ad', e, hlt, hc⟩ := s1'.out hne
      injection e with e
      subst e
      rw [hb.cell (by rw [add_block]; exact hlt)]
      exact hc j u hu
    have hcells' := Lib.hid hcells
    clear hcells
    go_wp2_with (at_builtin; refine app_many rfl (.tmp 5) (.tmp 6) 29 4 rfl i0 _ 1 Tryz.underlying29 hi hz0 hz1 hz2 rfl w.heap.size (.slice (some ⟨w.heap.size, 0, none⟩) 0 0) 0 [] rfl (own_made0 w _) ad n c rfl (xs.map .bool) (by simp [h1'.out]) (hcells'.out _ ((Below.refl _ _).alloc (Nat.le_refl _) _)) (oneCell_bools _) (by omega) (by omega) (by simp) ?_; intro A' c' w1 hown1 hg1 hat1)
    go_ret
    simp only [List.nil_append, Nat.zero_add] at hown1
    refine ⟨A', c', by simp, SlT.own hown1, ((Below.refl _ _).alloc (Nat.le_refl _) _).grown hg1 (by simp) ?_⟩
    intro k hk
    have e : w.heap.size = k := by simpa [Value.ownBlock] using hk
    omega

/-- The moves, each once, as they come. -/
def onceF : List (List Bool) → List (List Bool) → List (List Bool)
  | acc, [] => acc
  | acc, x :: l => onceF (if x ∈ acc then acc else acc ++ [x]) l

theorem onceF_take (acc rows : List (List Bool)) (k : Nat) (hk : k < rows.length) : onceF acc (rows.take (k + 1)) = (if rows[k] ∈ onceF acc (rows.take k) then onceF acc (rows.take k) else onceF acc (rows.take k) ++ [rows[k]]) := by
  induction rows generalizing acc k with
  | nil => simp at hk
  | cons x l ih =>
    cases k with
    | zero => simp [onceF]
    | succ k =>
      simp only [List.take_succ_cons, onceF, List.getElem_cons_succ]
      exact ih _ k (by simpa using hk)

theorem onceF_len (P : List Bool → Prop) (rows : List (List Bool)) : ∀ acc, (∀ r ∈ acc, P r) → (∀ r ∈ rows, P r) → ∀ r ∈ onceF acc rows, P r := by
  induction rows with
  | nil => intro acc h _; exact h
  | cons x l ih =>
    intro acc h h2
    refine ih _ ?_ (fun r hr => h2 r (List.mem_cons_of_mem _ hr))
    intro r hr
    split at hr
    · exact h r hr
    · rcases List.mem_append.1 hr with h3 | h3
      · exact h r h3
      · simp at h3; subst h3; exact h2 _ (List.mem_cons_self ..)

theorem onceF_length (rows : List (List Bool)) : ∀ acc, (onceF acc rows).length ≤ acc.length + rows.length := by
  induction rows with
  | nil => intro acc; simp [onceF]
  | cons x l ih =>
    intro acc
    refine Nat.le_trans (ih _) ?_
    split <;> simp <;> omega

set_option maxRecDepth 100000 in
theorem Once_any (A : Option Addr) (n c : Nat) (vs : List Value) (rows : List (List Bool)) (w : World) (hrl : ∀ r ∈ rows, r.length ≤ 1000000)
    (hn : vs.length = n) (hn2 : n ≤ 1000000) (hv : SlT w 29 A vs) (hr : BRows w 4 vs rows) :
    Calls Tryz.prog 7 #[.slice A n c] w fun e w' => ∃ (A' : Option Addr) (c' : Nat) (vs' : List Value), e = .returned (.slice A' (onceF [] rows).length c') ∧
      w'.ownsRow w.heap.size 29 1 (.slice A' (onceF [] rows).length c') (onceF [] rows).length vs' ∧ BRows w' 4 vs' (onceF [] rows) ∧ Below w.heap.size w w' := by
  obtain ⟨i0, hi, hz0, hz1, hz2⟩ := info_parts info_bools
  have hn' := Lib.hid hn
  have hv' := Lib.hid hv
  have hr' := Lib.hid hr
  have hrl' := Lib.hid hrl
  clear hrl hn hv hr
  go_enter Tryz.func7, Tryz.ntmps7
  go_wp2_with fail
  go_loopw [3, 8] (fun v i wr => ∃ (k m : Nat) (acc : List (List Bool)) (ws : List Value) (B : Option Addr) (d : Nat), k ≤ n ∧ m ≤ k ∧ i = .int .i64 k ∧ v = .slice B m d ∧ acc = onceF [] (rows.take k) ∧ acc.length = m ∧
      wr.ownsRow w.heap.size 29 1 (.slice B m d) m ws ∧ BRows wr 4 ws acc ∧ Below w.heap.size w wr) (fun _ i _ => n - (intOf i).toNat)
  case atStart => exact ⟨0, 0, [], [], none, 0, Nat.zero_le _, Nat.le_refl _, rfl, rfl, by simp [onceF], rfl, own_nil' _ _ _, BRows.nil _ _, Below.refl _ _⟩
  case round =>
    obtain ⟨k, m, acc, ws, B, d, hk, hmk, rfl, rfl, hacc, haccm, hown, hws, hb⟩ := hrel
    have hacc' := Lib.hid hacc
    have haccm' := Lib.hid haccm
    have hws' := Lib.hid hws
    clear hacc haccm hws
    by_cases hlt : k < n
    · have hkr : k < rows.length := by rw [← hr'.out.1, hn'.out]; exact hlt
      obtain ⟨ad, rfl, hat, hcell⟩ := hv'.out.at_ (k := k) (by rw [hn'.out]; exact hlt)
      obtain ⟨A2, c2, hvk, hs2⟩ := hr'.out.at_ hkr
      have hkl : (rows[k]).length ≤ 1000000 := hrl'.out _ (List.getElem_mem hkr)
      have hcell' : wr.cell? (ad.add k) = some (.slice A2 (rows[k]).length c2) := by
        rw [hb.cell (by rw [add_block]; exact tyAt_lt hat), hcell]; rw [List.getElem?_eq_getElem (by rw [hn'.out]; exact hlt)] at hvk; exact hvk
      have hs3 : SlT wr 4 A2 ((rows[k]).map .bool) := hs2.below hb
      have hstep := Lib.hid (onceF_take [] rows k hkr)
      have hs3' := Lib.hid hs3
      have haccl : ∀ r ∈ acc, r.length ≤ 1000000 := by rw [hacc'.out]; exact onceF_len (fun r => r.length ≤ 1000000) _ _ (by simp) (fun r hr => hrl'.out r (List.mem_of_mem_take hr))
      have haccl' := Lib.hid haccl
      generalize hm : (rows[k]).length = y at hcell' hkl
      generalize hx : rows[k] = x at *
      have hm' := Lib.hid hm
      clear hcell hvk hs2 hs3 hkr hm hx hat haccl
      go_wp2_with fail
      refine (onceHas _ A2 y c2 x B m d ws acc _ hm'.out hkl haccl'.out (by have := hown.1; omega) (by omega) (hs3'.out.alloc _).sl ((SlT.own hown).alloc _).sl (hws'.out.alloc _) (by simp)).mono ?_
      rintro e w' ⟨rfl, q, rfl⟩
      by_cases hin : x ∈ acc
      · have hd : decide (x ∈ acc) = true := decide_eq_true hin
        have hin' := Lib.hid hin
        clear hin
        go_wp2_with fail
        refine ⟨⟨k + 1, m, acc, ws, B, d, by omega, by omega, by go_num, rfl, ?_, haccm'.out, hown.alloc _, hws'.out.alloc _, below_drewN' (hb.alloc hb.size _) _⟩, by simp [intOf]; omega⟩
        rw [hstep.out, ← hacc'.out, if_pos hin'.out]
      · have hd : decide (x ∈ acc) = false := decide_eq_false hin
        have hin' := Lib.hid hin
        clear hin
        go_wp2_with fail
        have s4 := Lib.hid ((hs3'.out.alloc (.cells #[Value.slice A2 y c2] 29)).sl)
        refine (CloneB_any A2 y c2 x ((wr.alloc (.cells #[Value.slice A2 y c2] 29)).drewN q) hm'.out hkl s4.out).mono ?_
        rintro e w1 ⟨A3, c3, rfl, hs5, hb1⟩
        have hb0 : Below w.heap.size w ((wr.alloc (.cells #[Value.slice A2 y c2] 29)).drewN q) := below_drewN' (hb.alloc hb.size _) _
        have hsz : w.heap.size ≤ ((wr.alloc (.cells #[Value.slice A2 y c2] 29)).drewN q).heap.size := hb0.size
        have hown1 : w1.ownsRow w.heap.size 29 1 (.slice B m d) m ws := by
          have h0 : ((wr.alloc (.cells #[Value.slice A2 y c2] 29)).drewN q).ownsRow w.heap.size 29 1 (.slice B m d) m ws := hown.alloc _
          refine h0.kept (row := none) ⟨hb1.os, hb1.tape, hb1.output, hb1.size, fun j hj _ => hb1.block j hj⟩ ?_
          cases hv : (Value.slice B m d).ownBlock <;> simp
        have hbb : Below w.heap.size w w1 := hb0.trans (hb1.mono hsz)
        have hws1 : BRows w1 4 ws acc := by
          have h0 : BRows ((wr.alloc (.cells #[Value.slice A2 y c2] 29)).drewN q) 4 ws acc := hws'.out.alloc _
          exact h0.below hb1
        have hws1' := Lib.hid hws1
        have hs5' := Lib.hid hs5
        clear hb1 hb0 hsz hws1 hs5 hown hb hcell'
        go_wp2_with (at_builtin; refine app_one rfl (.tmp 16) (.tmp 19) 25 29 rfl i0 _ 24 Tryz.underlying25 hi hz0 hz1 hz2 rfl _ _ _ _ rfl _ _ rfl hown1 rfl rfl (by omega) (by omega) hbb.size ?_; intro A' c' w2 hown3 hg1 hat1)
        have hb2 := below_app hbb hbb.size hown1 (Nat.le_refl _) hg1
        have hr2 : BRows w2 4 (ws ++ [.slice A3 y c3]) (acc ++ [x]) := by
          refine ((hws1'.out.snoc ⟨A3, c3, by rw [hm'.out], hs5'.out⟩).alloc _).grown hg1 ?_
          intro g hg
          rw [tyAt_own (hown1.alloc _) hg]
          decide
        have hr2' := Lib.hid hr2
        clear hat1 hg1 hown1 hbb hr2
        go_wp2_with fail
        go_roundw
        case rel => exact ⟨k + 1, m + 1, acc ++ [x], _, A', c', by omega, by omega, by go_num, rfl, by rw [hstep.out, ← hacc'.out, if_neg hin'.out], by simp [haccm'.out], hown3, hr2'.out, hb2⟩
        case measure => simp [intOf]; omega
    · obtain rfl : k = n := by omega
      go_wp2_with fail
      go_ret
      have e : acc = onceF [] rows := by rw [hacc'.out, List.take_of_length_le (by rw [← hr'.out.1, hn'.out]; exact Nat.le_refl _)]
      rw [← e, haccm'.out]
      exact ⟨B, d, ws, rfl, hown, hws'.out, hb⟩

end Go.Proofs.YtkdpdlboggggoaaGreatDoor
