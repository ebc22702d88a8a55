/- TrimOnce: the walk of the law itself. -/
import Derived.Test.YtkdpdlboggggoaaGreatDoorOo
import Derived.Test.YtkdpdlboggggoaaGreatDoorSm
namespace Go.Proofs.YtkdpdlboggggoaaGreatDoor
open Go.RowKit

/-- Whether a move stands among the first ones. -/
def seenB (l : List (List Bool)) (x : List Bool) (k : Nat) : Bool := decide (x ∈ l.take k)
theorem seenB_zero (l : List (List Bool)) (x : List Bool) : seenB l x 0 = false := by simp [seenB]
theorem seenB_succ (l : List (List Bool)) (x : List Bool) (k : Nat) (hk : k < l.length) : seenB l x (k + 1) = (seenB l x k || decide (l[k] = x)) := by
  have e : x ∈ l.take (k + 1) ↔ (x ∈ l.take k ∨ l[k] = x) := by rw [List.take_succ_eq_append_getElem hk, List.mem_append, List.mem_singleton, eq_comm (a := x)]
  unfold seenB
  rw [Bool.eq_iff_iff]
  simp only [decide_eq_true_eq, Bool.or_eq_true, e]
theorem seenB_all (l : List (List Bool)) (x : List Bool) (k : Nat) (hk : l.length ≤ k) : seenB l x k = decide (x ∈ l) := by
  unfold seenB; rw [List.take_of_length_le hk]

def FirstSaid : Prop := ∀ w : World, Calls Tryz.prog 4 #[] w fun e w' => e = .returned (.bool true) ∧ Below w.heap.size w w'

set_option maxRecDepth 100000 in
set_option maxHeartbeats 1000000 in
theorem TrimOnce_any (hfirst : FirstSaid) (A0 : Option Addr) (n c0 : Nat) (zs : List Int) (inner : Int) (w : World) (hn : zs.length = n) (hz : Sl w w.heap.size A0 (zs.map (Value.int .i64)))
    (hi1 : -9223372036854775807 ≤ inner + 1) (hi2 : inner ≤ 9223372036854775807) (hn3 : n ≤ 9223372036854775807) :
    Calls Tryz.prog 3 #[.slice A0 n c0, .int .i64 inner] w fun e w' => e = .returned (.bool true) ∧ Below w.heap.size w w' := by
  obtain ⟨i0, hi, hz0, hz1, hz2⟩ := info_parts info_bools
  have hn' := Lib.hid hn
  have hz' := Lib.hid hz
  clear hn hz
  by_cases hn2 : n ≤ 20
  · go_enter Tryz.func3, Tryz.ntmps3
    go_wp2_with fail
    refine (hfirst w).mono ?_
    rintro e w1 ⟨rfl, hb1⟩
    go_wp2_with fail
    refine (Number_any inner 5 w1 (by omega) (by omega) hi1 hi2).mono ?_
    rintro e w1' ⟨rfl, rfl⟩
    obtain ⟨many, hmany, hmany2⟩ : ∃ many : Nat, inner % 5 = many ∧ many ≤ 4 := ⟨(inner % 5).toNat, by omega, by omega⟩
    rw [hmany]
    clear hmany
    go_wp2_with fail
    refine (Moves_any A0 n c0 zs many w1 hn'.out (by omega) ((hz'.out.below hb1).more hb1.size) (by omega)).mono ?_
    rintro e w2 ⟨A, c, vs, rows, rfl, hown, hrows, hlen, hb2⟩
    have hv : SlT w2 29 A vs := SlT.own hown
    have hvn : vs.length = n := by have := hown.1; omega
    have hb12 : Below w.heap.size w w2 := hb1.trans (hb2.mono hb1.size)
    have hrl : ∀ r ∈ rows, r.length ≤ 1000000 := fun r hr => by rw [hlen r hr]; omega
    have hv' := Lib.hid hv
    have hvn' := Lib.hid hvn
    have hrows' := Lib.hid hrows
    have hrl' := Lib.hid hrl
    clear hv hvn hrows hrl hlen hown hb2 hb1
    go_wp2_with fail
    refine (Once_any A n c vs rows w2 hrl'.out hvn'.out (by omega) hv'.out hrows'.out).mono ?_
    rintro e w3 ⟨At, ct, ts, rfl, howt, hts, hb3⟩
    have hv3 := Lib.hid (hv'.out.below hb3)
    have hrows3 := Lib.hid (hrows'.out.below hb3)
    have hb13 : Below w.heap.size w w3 := hb12.trans (hb3.mono hb12.size)
    have ht3 := Lib.hid (SlT.own howt)
    have hts3 := Lib.hid hts
    have hlt3 := Lib.hid (onceF_length rows [])
    have hrn : rows.length = n := by rw [← hrows'.out.1]; exact hvn'.out
    have hrn' := Lib.hid hrn
    clear hv' hrows' hb12 hb3 howt hts hrn
    generalize hT : (onceF [] rows).length = mt at *
    have hT' := Lib.hid hT
    clear hT
    go_wp2_with fail
    go_loopw [8, 9, 10, 11] (fun v i _ _ wr => ∃ (k m : Nat) (acc : List (List Bool)) (ws : List Value) (B : Option Addr) (d : Nat), k ≤ n ∧ m ≤ k ∧ i = .int .i64 k ∧ v = .slice B m d ∧ acc = onceF [] (rows.take k) ∧ acc.length = m ∧
      wr.ownsRow w3.heap.size 29 1 (.slice B m d) m ws ∧ BRows wr 4 ws acc ∧ Below w3.heap.size w3 wr) (fun _ i _ _ _ => n - (intOf i).toNat)
    case atStart => exact ⟨0, 0, [], [], none, 0, Nat.zero_le _, Nat.le_refl _, rfl, rfl, by simp [onceF], rfl, own_nil' _ _ _, BRows.nil _ _, Below.refl _ _⟩
    case round =>
      obtain ⟨k, m, acc, ws, B, d, hk, hmk, rfl, rfl, hacc, haccm, hown, hws, hb⟩ := hrel
      have hacc' := Lib.hid hacc
      have haccm' := Lib.hid haccm
      have hws' := Lib.hid hws
      clear hacc haccm hws
      by_cases hlt : k < n
      · have hkr : k < rows.length := by rw [hrn'.out]; exact hlt
        obtain ⟨ad, rfl, hat, hcell⟩ := hv3.out.at_ (k := k) (by rw [hvn'.out]; exact hlt)
        obtain ⟨A2, c2, hvk, hs2⟩ := hrows3.out.at_ hkr
        have hkl : (rows[k]).length ≤ 1000000 := hrl'.out _ (List.getElem_mem hkr)
        have hcell' : wr.cell? (ad.add k) = some (.slice A2 (rows[k]).length c2) := by
          rw [hb.cell (by rw [add_block]; exact tyAt_lt hat), hcell]; rw [List.getElem?_eq_getElem (by rw [hvn'.out]; exact hlt)] at hvk; exact hvk
        have hs3' := Lib.hid (hs2.below hb)
        have hstep := Lib.hid (onceF_take [] rows k hkr)
        have haccl : ∀ r ∈ acc, r.length ≤ 1000000 := by rw [hacc'.out]; exact onceF_len (fun r => r.length ≤ 1000000) _ _ (by simp) (fun r hr => hrl'.out r (List.mem_of_mem_take hr))
        have haccl' := Lib.hid haccl
        generalize hm : (rows[k]).length = y at hcell' hkl
        generalize hx : rows[k] = x at *
        have hm' := Lib.hid hm
        clear hcell hvk hs2 hkr hm hx hat haccl
        go_wp2_with fail
        obtain ⟨wo, rfl⟩ : ∃ wo : World, wo = wr := ⟨_, rfl⟩
        go_loopw [10, 11] (fun s j wr => ∃ (t q : Nat), t ≤ m ∧ j = .int .i64 t ∧ s = .bool (seenB acc x t) ∧ wr = wo.drewN q) (fun _ j _ => m - (intOf j).toNat)
        case atStart => exact ⟨0, 0, Nat.zero_le _, rfl, by rw [seenB_zero], rfl⟩
        case round =>
          obtain ⟨t, q, ht, rfl, rfl, hwr⟩ := hrel
          have hwr' := Lib.hid hwr
          clear hwr
          by_cases hlt2 : t < m
          · have hta : t < acc.length := by rw [haccm'.out]; exact hlt2
            have hnext := Lib.hid (seenB_succ acc x t hta)
            obtain ⟨a1, rfl, _, hc1⟩ := (SlT.own hown).at_ (k := t) (by rw [hws'.out.1]; exact hta)
            obtain ⟨B1, d1, e1, t1⟩ := hws'.out.at_ hta
            rw [List.getElem?_eq_getElem (by rw [hws'.out.1]; exact hta)] at e1
            injection e1 with e1
            have hc1' : wr.cell? (a1.add t) = some (.slice B1 (acc[t]).length d1) := by rw [hwr'.out, ← e1]; exact hc1
            have hc2' : wr.cell? (ad.add k) = some (.slice A2 y c2) := by rw [hwr'.out]; exact hcell'
            have hkl1 := haccl'.out _ (List.getElem_mem hta)
            have H := Lib.hid (fun q' => SameBools_any B1 A2 (acc[t]).length d1 y c2 acc[t] x (wr.drewN q') rfl hm'.out hkl1 hkl (by rw [hwr'.out]; exact t1.sl) (by rw [hwr'.out]; exact hs3'.out.sl))
            generalize (acc[t]).length = m1 at *
            cases hseen : seenB acc x t with
            | true =>
              rw [hseen, Bool.true_or] at hnext
              clear H hc1 e1 t1 hta hseen
              go_wp2_with fail
              go_quiet (fail)
              go_wp2_with fail
              exact ⟨⟨t + 1, _, by omega, by go_num, by rw [hnext.out], by rw [hwr'.out]; exact World.drewN_drewN _ _ _⟩, by simp [intOf]; omega⟩
            | false =>
              rw [hseen] at hnext
              generalize decide (acc[t] = x) = r at hnext H
              clear hc1 e1 t1 hta hseen
              go_wp2_with fail
              go_quiet ((go_at_call 8; exact Calls.quiet_of (H.out _)))
              go_wp2_with fail
              exact ⟨⟨t + 1, _, by omega, by go_num, by rw [hnext.out]; simp, by rw [hwr'.out]; exact World.drewN_drewN _ _ _⟩, by simp [intOf]; omega⟩
          · obtain rfl : t = m := by omega
            have hall := Lib.hid (seenB_all acc x t (by rw [haccm'.out]; exact Nat.le_refl _))
            have hc2' : wr.cell? (ad.add k) = some (.slice A2 y c2) := by rw [hwr'.out]; exact hcell'
            have hown2 : wr.ownsRow w3.heap.size 29 1 (.slice B t d) t ws := by rw [hwr'.out]; exact hown
            have hws2 : BRows wr 4 ws acc := by rw [hwr'.out]; exact hws'.out
            have hbb : Below w3.heap.size w3 wr := by rw [hwr'.out]; exact below_drewN' hb q
            have hs4' : Hid (SlT wr 4 A2 (x.map .bool)) := by rw [hwr'.out]; exact hs3'
            have hws2' := Lib.hid hws2
            cases hin : seenB acc x t with
            | true =>
              rw [hin] at hall
              have hin' : x ∈ acc := of_decide_eq_true hall.out.symm
              have hin2 := Lib.hid hin'
              clear hin hin' hws2 hb hown hcell'
              go_wp2_with fail
              go_roundw
              case rel => exact ⟨k + 1, t, acc, ws, B, d, by omega, by omega, by go_num, rfl, by rw [hstep.out, ← hacc'.out, if_pos hin2.out], haccm'.out, hown2, hws2'.out, hbb⟩
              case measure => simp [intOf]; omega
            | false =>
              rw [hin] at hall
              have hin' : ¬ x ∈ acc := of_decide_eq_false hall.out.symm
              have hin2 := Lib.hid hin'
              clear hin hin' hws2 hb hown hcell'
              go_wp2_with (at_builtin; refine app_one rfl (.tmp 52) (.tmp 57) 25 29 rfl i0 _ 24 Tryz.underlying25 hi hz0 hz1 hz2 rfl _ _ _ _ rfl _ _ rfl hown2 rfl rfl (by omega) (by omega) hbb.size ?_; intro A' c' w4 hown3 hg1 hat1)
              have hb2 := below_app hbb hbb.size hown2 (Nat.le_refl _) hg1
              have hr2 : BRows w4 4 (ws ++ [.slice A2 y c2]) (acc ++ [x]) := by
                refine ((hws2'.out.snoc ⟨A2, c2, by rw [hm'.out], hs4'.out⟩).alloc _).grown hg1 ?_
                intro g hg
                rw [tyAt_own (hown2.alloc _) hg]
                decide
              have hr2' := Lib.hid hr2
              clear hat1 hg1 hown2 hbb hr2
              go_wp2_with fail
              go_roundw
              case rel => exact ⟨k + 1, t + 1, acc ++ [x], _, A', c', by omega, by omega, by go_num, rfl, by rw [hstep.out, ← hacc'.out, if_neg hin2.out], by simp [haccm'.out], hown3, hr2'.out, hb2⟩
              case measure => simp [intOf]; omega
      · obtain rfl : k = n := by omega
        have e : acc = onceF [] rows := by rw [hacc'.out, List.take_of_length_le (by rw [hrn'.out]; exact Nat.le_refl _)]
        have hm : m = mt := by rw [← haccm'.out, e, hT'.out]
        subst hm
        have hts4 := Lib.hid (hts3.out.below hb)
        have ht4 := Lib.hid (ht3.out.below hb)
        have e' := Lib.hid e
        clear e
        go_wp2_with fail
        refine (SameMoves_eq At B m ct d ts ws acc _ haccm'.out (by omega) (by rw [e'.out]; exact onceF_len (fun r => r.length ≤ 1000000) _ _ (by simp) hrl'.out) ht4.out.sl (SlT.own hown).sl (by rw [e'.out]; exact hts4.out) hws'.out).mono ?_
        rintro e w5 ⟨rfl, q, rfl⟩
        go_wp2_with fail
        go_ret
        exact ⟨rfl, below_drewN' (hb13.trans (hb.mono hb13.size)) _⟩
  · have hb : decide (20 < n) = true := decide_eq_true (by omega)
    go_enter Tryz.func3, Tryz.ntmps3
    go_wp2_with fail
    refine (hfirst w).mono ?_
    rintro e w1 ⟨rfl, hb1⟩
    go_wp2_with fail
    go_ret
    exact ⟨rfl, hb1⟩

end Go.Proofs.YtkdpdlboggggoaaGreatDoor
