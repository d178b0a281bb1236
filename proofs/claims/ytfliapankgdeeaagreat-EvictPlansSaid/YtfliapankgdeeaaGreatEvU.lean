/- slices.symMergeCmpFunc at []int, walked: one element ahead. -/
import Derived.Test.YtfliapankgdeeaaGreatEvT
namespace Go.Proofs.YtfliapankgdeeaaGreat.A
open Go.RowKit Go.Shelf Go.Lib Go.Sort
set_option linter.unusedVariables false
set_option linter.unusedSimpArgs false
variable {w0 w : World} {blk off : Nat} {d0 d : Array Bk}

theorem half_u (i j : Nat) (h : i + j < 9223372036854775808) : IntKind.i64.wrap (IntKind.u64.wrap ((i : Int) + (j : Int)) / 2) = (((i + j) / 2 : Nat) : Int) := by
  have e : IntKind.u64.wrap ((i : Int) + (j : Int)) = ((i : Int) + (j : Int)) % 18446744073709551616 := rfl
  rw [IntKind.wrap_i64, e]; omega

set_option maxHeartbeats 4000000 in
set_option maxRecDepth 100000 in
theorem symMerge_left (a b cap : Nat) (hC : CmpLays1 Tryz.prog 18 #[] encB cfB blk off d0.size w0) (R : Row1 encB w0 blk off d0) (hs : d0.size = d.size) (S : SW encB w0 blk off d w) (h1 : a + 1 < b) (h2 : b ≤ d.size) (hsz : d.size < 4611686018427387904)
    (hA : Agr a (a + 1) b d) (hS : SortedIn ltT (a + 1) b d) :
    Calls Tryz.prog 61 #[.slice (some ⟨blk, off, none⟩) d.size cap, .int .i64 a, .int .i64 (a + 1 : Nat), .int .i64 b, .func (.func 18) #[] #[]] w fun e w' => e = .returned (.tuple #[]) ∧ ∃ d', PermIn a b d d' ∧ SortedIn ltT a b d' ∧ SW encB w0 blk off d' w' := by
  have hm : Tryz.prog.follows .mixedOrders = true := rfl
  have hcl0 := encB_one.cells
  simp only [Value.cells] at hcl0
  have hst := encB_one.store Tryz.prog
  have eg : ∀ args w, (callFunc 18 args).run Tryz.prog w = .ok (.enter 18 args) w := enters_of Tryz.func18 (by kernel_rfl) rfl
  have HC : Aside (CmpLays1 Tryz.prog 18 #[] encB cfB blk off d0.size w0) := hC
  have HA : Aside (Agr a (a + 1) b d) := hA
  have HS : Aside (SortedIn ltT (a + 1) b d) := hS
  have S0 : Aside (SW encB w0 blk off d w) := S
  clear S hC hA hS
  have e1 : IntKind.i64.wrap (((a + 1 : Nat) : Int) - (a : Int)) = 1 := by rw [IntKind.wrap_i64]; omega
  have e0 : IntKind.i64.wrap ((a : Int) + 1 - (a : Int)) = 1 := by rw [IntKind.wrap_i64]; omega
  go_enter Tryz.func61, Tryz.ntmps61
  go_wp2
  go_loopg [10, 11] b (fun g vi vj wr => ∃ (i j : Nat), vi = .int .i64 i ∧ vj = .int .i64 j ∧ a + 1 ≤ i ∧ i ≤ j ∧ j ≤ b ∧ j - i ≤ g ∧ Aside (SW encB w0 blk off d wr) ∧ Aside (∀ t, a + 1 ≤ t → t < i → ltT d[t]! d[a]! = true) ∧ Aside (∀ t, j ≤ t → t < b → ltT d[t]! d[a]! = false))
  case atStart => exact ⟨a + 1, b, by go_num, rfl, Nat.le_refl _, by omega, Nat.le_refl _, by omega, S0, fun t _ _ => absurd (show t < t by omega) (Nat.lt_irrefl _), fun t _ _ => absurd (show t < t by omega) (Nat.lt_irrefl _)⟩
  case round =>
    clear S0
    obtain ⟨i, j, rfl, rfl, hai, hij, hjb, hg, S1, H1, H2⟩ := hrel
    by_cases hlt : i < j
    · have hltz : (i : Int) < (j : Int) := by omega
      obtain ⟨h, hh⟩ : ∃ h, h = (i + j) / 2 := ⟨_, rfl⟩
      have e2 : IntKind.i64.wrap ((i : Int) + (j : Int)) = (i : Int) + (j : Int) := by rw [IntKind.wrap_i64]; omega
      have e3 : ((i : Int) + (j : Int)) / 2 = (h : Int) := by omega
      have b1 : (h : Int) < (d.size : Int) := by omega
      have b2 : (a : Int) < (d.size : Int) := by omega
      obtain ⟨x, hx⟩ : ∃ x, x = d[h]! := ⟨_, rfl⟩
      obtain ⟨y, hy⟩ : ∃ x, x = d[a]! := ⟨_, rfl⟩
      have l1 := S1.out.cl R (by omega) h (by omega)
      have l2 := S1.out.cl R (by omega) a (by omega)
      rw [← hx] at l1
      rw [← hy] at l2
      have hc := S1.out.cmp HC.out (by omega) x y
      have hsd : h < d.size := by omega
      have hsa : a < d.size := by omega
      have AG : Aside (cfB x y < 0 ↔ ltT x y = true) := by rw [hx, hy]; exact HA.out a h (Nat.le_refl _) (by omega) (by omega) (by omega)
      have X : Aside (x = d[h]!) := hx
      have Y : Aside (y = d[a]!) := hy
      have HH : Aside (h = (i + j) / 2) := hh
      clear hx hy hh
      cases hv : ltT x y with
      | true =>
        have hd1 : decide (cfB x y < 0) = true := decide_eq_true (AG.out.2 hv)
        have hd2 : cfB x y < 0 := AG.out.2 hv
        have V : Aside (ltT x y = true) := hv
        clear hv
        go_wp2_with fail
        go_quiet_grown (first | (go_at_fn 18; refine Calls.grown_of (hc _ _)))
        have S2 : Aside (SW encB w0 blk off d (grow (wr.drewN nq) osq)) := S1.out.grown nq osq
        clear l1 l2 hc S1
        generalize grow (wr.drewN nq) osq = w2 at S2 ⊢
        clear nq osq
        go_wp2
        go_roundg (j - (h + 1))
        case measure => have := HH.out; omega
        case rel =>
          refine ⟨h + 1, j, by go_num, rfl, by have := HH.out; omega, by have := HH.out; omega, hjb, Nat.le_refl _, S2, (show Aside _ from fun t h3 h4 => ?_), H2⟩
          have hv := V.out
          rw [X.out, Y.out] at hv
          by_cases hq : t = h
          · rw [hq]; exact hv
          · exact le_ltT hv (HS.out t h h3 (by omega) (by have := HH.out; omega))
      | false =>
        have hd1 : decide (cfB x y < 0) = false := decide_eq_false (fun q => by rw [AG.out.1 q] at hv; cases hv)
        have hd2 : ¬ cfB x y < 0 := fun q => by rw [AG.out.1 q] at hv; cases hv
        have V : Aside (ltT x y = false) := hv
        clear hv
        go_wp2_with fail
        go_quiet_grown (first | (go_at_fn 18; refine Calls.grown_of (hc _ _)))
        have S2 : Aside (SW encB w0 blk off d (grow (wr.drewN nq) osq)) := S1.out.grown nq osq
        clear l1 l2 hc S1
        generalize grow (wr.drewN nq) osq = w2 at S2 ⊢
        clear nq osq
        go_wp2
        go_roundg (h - i)
        case measure => have := HH.out; omega
        case rel =>
          refine ⟨i, h, rfl, by first | rfl | go_num, hai, by have := HH.out; omega, by have := HH.out; omega, Nat.le_refl _, S2, H1, (show Aside _ from fun t h3 h4 => ?_)⟩
          have hv := V.out
          rw [X.out, Y.out] at hv
          by_cases hq : t = h
          · rw [hq]; exact hv
          · exact swoT.ntrans _ _ _ (HS.out h t (by have := HH.out; omega) (by omega) h4) hv
    · obtain rfl : i = j := by omega
      have hltz : ¬ (i : Int) < (i : Int) := by omega
      go_wp2
      go_loopg [13] i (fun g vk wr => ∃ (k : Nat) (dk : Array Bk), vk = .int .i64 k ∧ a ≤ k ∧ k + 1 ≤ i ∧ i - (k + 1) ≤ g ∧ dk.size = d.size ∧ Aside (SW encB w0 blk off dk wr) ∧ Aside (PermIn a b d dk) ∧ Hid (∀ t, dk[t]! = if a ≤ t ∧ t < k then d[t + 1]! else if t = k then d[a]! else d[t]!))
      case atStart =>
        refine ⟨a, d, rfl, Nat.le_refl _, hai, by omega, rfl, S1, permIn_refl _ _ _, (show Hid _ from fun t => ?_)⟩
        repeat' split
        all_goals first | (exfalso; omega) | rfl | (congr 1 <;> omega)
      case round =>
        clear S1
        obtain ⟨k, dk, rfl, hak, hki, hg2, hsk, S1, PM, HT⟩ := hrel
        have e5 : IntKind.i64.wrap ((i : Int) - 1) = (i : Int) - 1 := by rw [IntKind.wrap_i64]; omega
        by_cases hlt2 : k + 1 < i
        · have hltz2 : (k : Int) < (i : Int) - 1 := by omega
          obtain ⟨iN, hiN⟩ : ∃ q, q = k := ⟨_, rfl⟩
          obtain ⟨jN, hjN⟩ : ∃ q, q = k + 1 := ⟨_, rfl⟩
          have ea : ((k : Int)).toNat = iN := by omega
          have pa : (0 : Int) ≤ (k : Int) := by omega
          have ba : (k : Int) < (d.size : Int) := by omega
          have ec : ((k : Int) + 1).toNat = jN := by omega
          have pc : (0 : Int) ≤ (k : Int) + 1 := by omega
          have bc : (k : Int) + 1 < (d.size : Int) := by omega
          have rc : IntKind.i64.wrap ((k : Int) + 1) = (k : Int) + 1 := by rw [IntKind.wrap_i64]; omega
          obtain ⟨x, hx⟩ : ∃ x, x = dk[k]! := ⟨_, rfl⟩
          obtain ⟨y, hy⟩ : ∃ x, x = dk[k + 1]! := ⟨_, rfl⟩
          have S3 : Aside (SW encB w0 blk off (swp dk k (k + 1)) ((wr.setCell ⟨blk, off + iN, none⟩ (encB y)).setCell ⟨blk, off + jN, none⟩ (encB x)).drew) := by rw [hiN, hjN, hx, hy]; exact S1.out.swapped R k (k + 1) (by omega) (by omega)
          have c1 := S1.out.c1 R (by omega) k (by omega)
          have c2 := S1.out.c1 R (by omega) (k + 1) (by omega)
          have f1 := S1.out.f1 R (by omega) k (by omega)
          have f2 := S1.out.f1 R (by omega) (k + 1) (by omega)
          obtain ⟨u, c3⟩ := S1.out.c2 R (by omega) k (k + 1) (by omega) (by omega) (encB y)
          rw [← hjN, ← hiN] at c3
          rw [← hx, ← hiN] at c1
          rw [← hy, ← hjN] at c2
          rw [← hiN] at f1
          rw [← hjN] at f2
          clear S1 hx hy hiN hjN
          go_wp2_with fail
          go_big_region_o
          clear c1 c2 c3 f1 f2
          generalize ((wr.setCell ⟨blk, off + iN, none⟩ (encB y)).setCell ⟨blk, off + jN, none⟩ (encB x)).drew = w3 at S3 ⊢
          clear ea ec
          go_wp2
          go_roundg (i - (k + 1 + 1))
          case measure => omega
          case rel =>
            refine ⟨k + 1, swp dk k (k + 1), by go_num, by omega, by omega, Nat.le_refl _, by rw [size_swp]; exact hsk, S3, (show Aside _ from permIn_trans _ _ _ _ _ PM.out (swp_permIn _ _ _ _ _ (by omega) (by omega) (by omega) (by omega) (by omega))), (show Hid _ from fun t => ?_)⟩
            rw [swp_at _ (by omega) (by omega), HT.out, HT.out, HT.out]
            repeat' split
            all_goals first | (exfalso; omega) | rfl | (congr 1 <;> omega)
        · obtain rfl : i = k + 1 := by omega
          have hltz2 : ¬ (k : Int) < (k : Int) + 1 - 1 := by omega
          have hltz3 : ¬ (k : Int) < (k : Int) := by omega
          have e6 : (k : Int) + 1 - 1 = (k : Int) := by omega
          go_wp2
          (try simp only [Exit.inBlock, Exit.then]); refine bodyPost_ret (results_none rfl _ _ _) rfl ?_
          refine ⟨rfl, dk, PM.out, one_left (i := k + 1) (by omega) (by omega) HS.out H1.out H2.out (fun t => HT.out t), S1.out⟩
end Go.Proofs.YtfliapankgdeeaaGreat.A
