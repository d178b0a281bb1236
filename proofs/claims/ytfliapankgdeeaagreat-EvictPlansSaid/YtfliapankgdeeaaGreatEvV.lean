/- slices.symMergeCmpFunc at []int, walked: one element behind; the great case. -/
import Derived.Test.YtfliapankgdeeaaGreatEvU
namespace Go.Proofs.YtfliapankgdeeaaGreat.A
open Go.RowKit Go.Shelf Go.Lib Go.Sort
set_option linter.unusedVariables false
set_option linter.unusedSimpArgs false
variable {w0 w : World} {blk off : Nat} {d0 d : Array Bk}

set_option maxHeartbeats 4000000 in
set_option maxRecDepth 100000 in
theorem symMerge_right (a m cap : Nat) (hC : CmpLays1 Tryz.prog 18 #[] encB cfB blk off d0.size w0) (R : Row1 encB w0 blk off d0) (hs : d0.size = d.size) (S : SW encB w0 blk off d w) (h1 : a + 1 < m) (h2 : m + 1 ≤ d.size) (hsz : d.size < 4611686018427387904)
    (hA : Agr a m (m + 1) d) (hS : SortedIn ltT a m d) :
    Calls Tryz.prog 61 #[.slice (some ⟨blk, off, none⟩) d.size cap, .int .i64 a, .int .i64 m, .int .i64 (m + 1 : Nat), .func (.func 18) #[] #[]] w fun e w' => e = .returned (.tuple #[]) ∧ ∃ d', PermIn a (m + 1) d d' ∧ SortedIn ltT a (m + 1) d' ∧ SW encB w0 blk off d' w' := by
  have hm : Tryz.prog.follows .mixedOrders = true := rfl
  have hcl0 := encB_one.cells
  simp only [Value.cells] at hcl0
  have hst := encB_one.store Tryz.prog
  have eg : ∀ args w, (callFunc 18 args).run Tryz.prog w = .ok (.enter 18 args) w := enters_of Tryz.func18 (by kernel_rfl) rfl
  have HC : Aside (CmpLays1 Tryz.prog 18 #[] encB cfB blk off d0.size w0) := hC
  have S0 : Aside (SW encB w0 blk off d w) := S
  have HA : Aside (Agr a m (m + 1) d) := hA
  have HS : Aside (SortedIn ltT a m d) := hS
  clear S hC hA hS
  have e1 : IntKind.i64.wrap ((m : Int) - (a : Int)) = (m : Int) - (a : Int) := by rw [IntKind.wrap_i64]; omega
  have e2 : ((m : Int) - (a : Int) == 1) = false := beq_eq_false_iff_ne.2 (by omega)
  have e3 : ((m : Int) + 1 - (m : Int)) = 1 := by omega
  go_enter Tryz.func61, Tryz.ntmps61
  go_wp2
  go_loopg [14, 15] m (fun g vi vj wr => ∃ (i j : Nat), vi = .int .i64 i ∧ vj = .int .i64 j ∧ a ≤ i ∧ i ≤ j ∧ j ≤ m ∧ j - i ≤ g ∧ Aside (SW encB w0 blk off d wr) ∧ Aside (∀ t, a ≤ t → t < i → ltT d[m]! d[t]! = false) ∧ Aside (∀ t, j ≤ t → t < m → ltT d[m]! d[t]! = true))
  case atStart => exact ⟨a, m, rfl, rfl, Nat.le_refl _, by omega, Nat.le_refl _, by omega, S0, fun t _ _ => absurd (show t < t by omega) (Nat.lt_irrefl _), fun t _ _ => absurd (show t < t by omega) (Nat.lt_irrefl _)⟩
  case round =>
    clear S0 e1 e2 e3
    obtain ⟨i, j, rfl, rfl, hai, hij, hjb, hg, S1, H1, H2⟩ := hrel
    by_cases hlt : i < j
    · have hltz : (i : Int) < (j : Int) := by omega
      obtain ⟨h, hh⟩ : ∃ h, h = (i + j) / 2 := ⟨_, rfl⟩
      have e3 : ((i : Int) + (j : Int)) / 2 = (h : Int) := by omega
      have b1 : (h : Int) < (d.size : Int) := by omega
      have b2 : (m : Int) < (d.size : Int) := by omega
      obtain ⟨x, hx⟩ : ∃ x, x = d[m]! := ⟨_, rfl⟩
      obtain ⟨y, hy⟩ : ∃ x, x = d[h]! := ⟨_, rfl⟩
      have l1 := S1.out.cl R (by omega) m (by omega)
      have l2 := S1.out.cl R (by omega) h (by omega)
      rw [← hx] at l1
      rw [← hy] at l2
      have hc := S1.out.cmp HC.out (by omega) x y
      have AG : Aside (cfB x y < 0 ↔ ltT x y = true) := by rw [hx, hy]; exact HA.out h m (by omega) (by omega) (by omega) (by omega)
      have X : Aside (x = d[m]!) := hx
      have Y : Aside (y = d[h]!) := hy
      have HH : Aside (h = (i + j) / 2) := hh
      clear hx hy hh
      cases hv : ltT x y with
      | true =>
        have hd1 : decide (cfB x y < 0) = true := decide_eq_true (AG.out.2 hv)
        have hd2 : cfB x y < 0 := AG.out.2 hv
        have V : Aside (ltT x y = true) := hv
        clear hv
        go_wp2_with fail
        go_quiet_grown (first | (go_at_fn 18; refine Calls.grown_of (hc _ _)))
        have S2 : Aside (SW encB w0 blk off d (grow (wr.drewN nq) osq)) := S1.out.grown nq osq
        clear l1 l2 hc S1
        generalize grow (wr.drewN nq) osq = w2 at S2 ⊢
        clear nq osq
        go_wp2
        go_roundg (h - i)
        case measure => have := HH.out; omega
        case rel =>
          refine ⟨i, h, rfl, by first | rfl | go_num, hai, by have := HH.out; omega, by have := HH.out; omega, Nat.le_refl _, S2, H1, (show Aside _ from fun t h3 h4 => ?_)⟩
          have hv := V.out
          rw [X.out, Y.out] at hv
          by_cases hq : t = h
          · rw [hq]; exact hv
          · exact ltT_le hv (HS.out h t (by have := HH.out; omega) (by omega) h4)
      | false =>
        have hd1 : decide (cfB x y < 0) = false := decide_eq_false (fun q => by rw [AG.out.1 q] at hv; cases hv)
        have hd2 : ¬ cfB x y < 0 := fun q => by rw [AG.out.1 q] at hv; cases hv
        have V : Aside (ltT x y = false) := hv
        clear hv
        go_wp2_with fail
        go_quiet_grown (first | (go_at_fn 18; refine Calls.grown_of (hc _ _)))
        have S2 : Aside (SW encB w0 blk off d (grow (wr.drewN nq) osq)) := S1.out.grown nq osq
        clear l1 l2 hc S1
        generalize grow (wr.drewN nq) osq = w2 at S2 ⊢
        clear nq osq
        go_wp2
        go_roundg (j - (h + 1))
        case measure => have := HH.out; omega
        case rel =>
          refine ⟨h + 1, j, by go_num, rfl, by have := HH.out; omega, by have := HH.out; omega, hjb, Nat.le_refl _, S2, (show Aside _ from fun t h3 h4 => ?_), H2⟩
          have hv := V.out
          rw [X.out, Y.out] at hv
          by_cases hq : t = h
          · rw [hq]; exact hv
          · exact swoT.ntrans _ _ _ hv (HS.out t h h3 (by omega) (by have := HH.out; omega))
    · obtain rfl : i = j := by omega
      have hltz : ¬ (i : Int) < (i : Int) := by omega
      go_wp2
      go_loopg [17] m (fun g vk wr => ∃ (k : Nat) (dk : Array Bk), vk = .int .i64 k ∧ i ≤ k ∧ k ≤ m ∧ k - i ≤ g ∧ dk.size = d.size ∧ Aside (SW encB w0 blk off dk wr) ∧ Aside (PermIn a (m + 1) d dk) ∧ Hid (∀ t, dk[t]! = if k < t ∧ t ≤ m then d[t - 1]! else if t = k then d[m]! else d[t]!))
      case atStart =>
        refine ⟨m, d, rfl, hjb, Nat.le_refl _, by omega, rfl, S1, permIn_refl _ _ _, (show Hid _ from fun t => ?_)⟩
        repeat' split
        all_goals first | (exfalso; omega) | rfl | (congr 1 <;> omega)
      case round =>
        clear S1
        obtain ⟨k, dk, rfl, hik, hkm, hg2, hsk, S1, PM, HT⟩ := hrel
        by_cases hlt2 : i < k
        · have hltz2 : (i : Int) < (k : Int) := by omega
          obtain ⟨kp, rfl⟩ : ∃ q, k = q + 1 := ⟨k - 1, by omega⟩
          have hltz3 : (i : Int) < (kp : Int) + 1 := by omega
          have ez : (kp : Int) + 1 - 1 = (kp : Int) := by omega
          obtain ⟨iN, hiN⟩ : ∃ q, q = kp + 1 := ⟨_, rfl⟩
          obtain ⟨jN, hjN⟩ : ∃ q, q = kp := ⟨_, rfl⟩
          have ea : ((kp : Int) + 1).toNat = iN := by omega
          have pa : (0 : Int) ≤ (kp : Int) + 1 := by omega
          have ba : (kp : Int) + 1 < (d.size : Int) := by omega
          have ec : ((kp : Int)).toNat = jN := by omega
          have pc : (0 : Int) ≤ (kp : Int) := by omega
          have bc : (kp : Int) < (d.size : Int) := by omega
          obtain ⟨x, hx⟩ : ∃ x, x = dk[kp + 1]! := ⟨_, rfl⟩
          obtain ⟨y, hy⟩ : ∃ x, x = dk[kp]! := ⟨_, rfl⟩
          have S3 : Aside (SW encB w0 blk off (swp dk (kp + 1) kp) ((wr.setCell ⟨blk, off + iN, none⟩ (encB y)).setCell ⟨blk, off + jN, none⟩ (encB x)).drew) := by rw [hiN, hjN, hx, hy]; exact S1.out.swapped R (kp + 1) kp (by omega) (by omega)
          have c1 := S1.out.c1 R (by omega) (kp + 1) (by omega)
          have c2 := S1.out.c1 R (by omega) kp (by omega)
          have f1 := S1.out.f1 R (by omega) (kp + 1) (by omega)
          have f2 := S1.out.f1 R (by omega) kp (by omega)
          obtain ⟨u, c3⟩ := S1.out.c2 R (by omega) (kp + 1) kp (by omega) (by omega) (encB y)
          rw [← hiN, ← hjN] at c3
          rw [← hx, ← hiN] at c1
          rw [← hy, ← hjN] at c2
          rw [← hiN] at f1
          rw [← hjN] at f2
          clear S1 hx hy hiN hjN
          go_wp2_with fail
          go_big_region_o
          clear c1 c2 c3 f1 f2
          generalize ((wr.setCell ⟨blk, off + iN, none⟩ (encB y)).setCell ⟨blk, off + jN, none⟩ (encB x)).drew = w3 at S3 ⊢
          clear ea ec
          go_wp2
          go_roundg (kp - i)
          case measure => omega
          case rel =>
            refine ⟨kp, swp dk (kp + 1) kp, by first | rfl | go_num, by omega, by omega, Nat.le_refl _, by rw [size_swp]; exact hsk, S3, (show Aside _ from permIn_trans _ _ _ _ _ PM.out (swp_permIn _ _ _ _ _ (by omega) (by omega) (by omega) (by omega) (by omega))), (show Hid _ from fun t => ?_)⟩
            rw [swp_at _ (by omega) (by omega), HT.out, HT.out, HT.out]
            repeat' split
            all_goals first | (exfalso; omega) | rfl | (congr 1 <;> omega)
        · obtain rfl : i = k := by omega
          go_wp2
          (try simp only [Exit.inBlock, Exit.then]); refine bodyPost_ret (results_none rfl _ _ _) rfl ?_
          refine ⟨rfl, dk, PM.out, one_right (i := i) hai hkm HS.out H1.out H2.out (fun t => HT.out t), S1.out⟩

/-- Behind the rotation: what the lower half is made of, and the upper. -/
theorem parts {a m b mid s e : Nat} {d d1 : Array Bk} (hL : SortedIn ltT a m d) (hR : SortedIn ltT m b d) (hA : Agr a m b d) (hb : a ≤ s ∧ s ≤ mid ∧ s ≤ m ∧ m ≤ e ∧ mid ≤ e ∧ e ≤ b ∧ s + (e - m) = mid)
    (hd : ∀ t, d1[t]! = if s ≤ t ∧ t < e then (if t < s + (e - m) then d[t + (m - s)]! else d[t - (e - m)]!) else d[t]!) :
    (SortedIn ltT a s d1 ∧ SortedIn ltT s mid d1 ∧ Agr a s mid d1) ∧ ∀ d2 : Array Bk, (∀ t, mid ≤ t → d2[t]! = d1[t]!) → SortedIn ltT mid e d2 ∧ SortedIn ltT e b d2 ∧ Agr mid e b d2 := by
  obtain ⟨b1, b2, b3, b4, b5, b6, b7⟩ := hb
  have p1 : ∀ t, t < s → d1[t]! = d[t]! := fun t ht => by rw [hd, if_neg (by omega)]
  have p2 : ∀ t, s ≤ t → t < mid → d1[t]! = d[t + (m - s)]! := fun t h1 h2 => by rw [hd, if_pos (by omega), if_pos (by omega)]
  have p3 : ∀ t, mid ≤ t → t < e → d1[t]! = d[t - (e - m)]! := fun t h1 h2 => by rw [hd, if_pos (by omega), if_neg (by omega)]
  have p4 : ∀ t, e ≤ t → d1[t]! = d[t]! := fun t h1 => by rw [hd, if_neg (by omega)]
  refine ⟨⟨fun i j hi hij hj => ?_, fun i j hi hij hj => ?_, fun i j hi him hm hj => ?_⟩, fun d2 h2 => ⟨fun i j hi hij hj => ?_, fun i j hi hij hj => ?_, fun i j hi him hm hj => ?_⟩⟩
  · rw [p1 j hj, p1 i (by omega)]; exact hL i j hi hij (by omega)
  · rw [p2 j (by omega) hj, p2 i hi (by omega)]; exact hR _ _ (by omega) (by omega) (by omega)
  · rw [p2 j hm hj, p1 i him]; exact hA _ _ hi (by omega) (by omega) (by omega)
  · rw [h2 j (by omega), h2 i hi, p3 j (by omega) hj, p3 i hi (by omega)]; exact hL _ _ (by omega) (by omega) (by omega)
  · rw [h2 j (by omega), h2 i (by omega), p4 j (by omega), p4 i hi]; exact hR _ _ (by omega) hij hj
  · rw [h2 j (by omega), h2 i hi, p4 j hm, p3 i hi him]; exact hA _ _ (by omega) (by omega) (by omega) hj

theorem RoR.self {m s e : Nat} (d : Array Bk) (h : s = m ∨ e = m) (h1 : s ≤ m) (h2 : m ≤ e) : RoR s m e d d := by
  refine ⟨permIn_refl _ _ _, rfl, fun t => ?_⟩
  repeat' split
  all_goals first | (exfalso; omega) | rfl | (congr 1 <;> omega)

theorem sorted_whole {a s m : Nat} {d : Array Bk} (h1 : SortedIn ltT a s d) (h2 : SortedIn ltT s m d) (h : s = a ∨ s = m) : SortedIn ltT a m d := by
  rcases h with rfl | rfl
  · exact h2
  · exact h1

/-- What symMergeCmpFunc does between a, m and b. -/
def SymOk (d0 : Array Bk) (w0 : World) (blk off cap a m b : Nat) : Prop := ∀ (d : Array Bk) (w : World), d0.size = d.size → SW encB w0 blk off d w → a < m → m < b → b ≤ d.size → Agr a m b d → SortedIn ltT a m d → SortedIn ltT m b d →
  Calls Tryz.prog 61 #[.slice (some ⟨blk, off, none⟩) d.size cap, .int .i64 a, .int .i64 m, .int .i64 b, .func (.func 18) #[] #[]] w fun e w' => e = .returned (.tuple #[]) ∧ ∃ d', PermIn a b d d' ∧ SortedIn ltT a b d' ∧ SW encB w0 blk off d' w'

set_option maxHeartbeats 16000000 in
set_option maxRecDepth 100000 in
theorem symMerge_main (a m b cap : Nat) (hC : CmpLays1 Tryz.prog 18 #[] encB cfB blk off d0.size w0) (R : Row1 encB w0 blk off d0) (hs : d0.size = d.size) (S : SW encB w0 blk off d w) (h1 : a + 1 < m) (h2 : m + 1 < b) (h3 : b ≤ d.size) (hsz : d.size < 2305843009213693952)
    (hA : Agr a m b d) (hL : SortedIn ltT a m d) (hR : SortedIn ltT m b d) (IH : ∀ a' m' b', b' - a' < b - a → SymOk d0 w0 blk off cap a' m' b') :
    Calls Tryz.prog 61 #[.slice (some ⟨blk, off, none⟩) d.size cap, .int .i64 a, .int .i64 m, .int .i64 b, .func (.func 18) #[] #[]] w fun e w' => e = .returned (.tuple #[]) ∧ ∃ d', PermIn a b d d' ∧ SortedIn ltT a b d' ∧ SW encB w0 blk off d' w' := by
  have hm : Tryz.prog.follows .mixedOrders = true := rfl
  have hcl0 := encB_one.cells
  simp only [Value.cells] at hcl0
  have hst := encB_one.store Tryz.prog
  have eg : ∀ args w, (callFunc 18 args).run Tryz.prog w = .ok (.enter 18 args) w := enters_of Tryz.func18 (by kernel_rfl) rfl
  have HC : Aside (CmpLays1 Tryz.prog 18 #[] encB cfB blk off d0.size w0) := hC
  have S0 : Aside (SW encB w0 blk off d w) := S
  have HA : Aside (Agr a m b d) := hA
  have HL : Aside (SortedIn ltT a m d) := hL
  have HR : Aside (SortedIn ltT m b d) := hR
  have I : Aside (∀ a' m' b', b' - a' < b - a → SymOk d0 w0 blk off cap a' m' b') := IH
  clear S hC hA hL hR IH
  have e1 : ((m : Int) - (a : Int) == 1) = false := beq_eq_false_iff_ne.2 (by omega)
  have e2 : ((b : Int) - (m : Int) == 1) = false := beq_eq_false_iff_ne.2 (by omega)
  obtain ⟨mid, hmid⟩ : ∃ q, q = (a + b) / 2 := ⟨_, rfl⟩
  have e3 : ((a : Int) + (b : Int)) / 2 = (mid : Int) := by omega
  obtain ⟨s0, r0, hcase⟩ : ∃ s0 r0, (mid < m ∧ s0 = mid + m - b ∧ r0 = mid) ∨ (m ≤ mid ∧ s0 = a ∧ r0 = m) := by
    by_cases q : mid < m
    · exact ⟨_, _, .inl ⟨q, rfl, rfl⟩⟩
    · exact ⟨_, _, .inr ⟨by omega, rfl, rfl⟩⟩
  have hsr : a ≤ s0 ∧ s0 < r0 ∧ r0 ≤ m ∧ r0 ≤ mid ∧ mid + m - b ≤ s0 ∧ mid < b ∧ a < mid := by omega
  have HK : Aside ((mid < m ∧ s0 = mid + m - b ∧ r0 = mid) ∨ (m ≤ mid ∧ s0 = a ∧ r0 = m)) := hcase
  have HM : Aside (mid = (a + b) / 2) := hmid
  clear hmid
  go_enter Tryz.func61, Tryz.ntmps61
  rcases hcase with ⟨c1, c2, c3⟩ | ⟨c1, c2, c3⟩
  · have g1 : (mid : Int) < (m : Int) := by omega
    have g2 : (mid : Int) + (m : Int) - (b : Int) = (s0 : Int) := by omega
    go_wp2
    go_loopg [20, 21] m (fun g vi vj wr => ∃ (i j : Nat), vi = .int .i64 i ∧ vj = .int .i64 j ∧ s0 ≤ i ∧ i ≤ j ∧ j ≤ r0 ∧ j - i ≤ g ∧ Aside (SW encB w0 blk off d wr) ∧ Aside (∀ c, s0 ≤ c → c < i → ltT d[mid + m - 1 - c]! d[c]! = false) ∧ Aside (∀ c, j ≤ c → c < r0 → ltT d[mid + m - 1 - c]! d[c]! = true))
    case atStart => exact ⟨s0, r0, by first | rfl | (rw [c2]) | go_num, by first | rfl | (rw [c3]), Nat.le_refl _, by omega, Nat.le_refl _, by omega, S0, fun t _ _ => absurd (show t < t by omega) (Nat.lt_irrefl _), fun t _ _ => absurd (show t < t by omega) (Nat.lt_irrefl _)⟩
    case round =>
      clear S0 e1 e2 e3 c1 c2 c3 g1 g2
      obtain ⟨i, j, rfl, rfl, hai, hij, hjb, hg, S1, H1, H2⟩ := hrel
      by_cases hlt : i < j
      · have hltz : (i : Int) < (j : Int) := by omega
        obtain ⟨h, hh⟩ : ∃ h, h = (i + j) / 2 := ⟨_, rfl⟩
        have e3 : ((i : Int) + (j : Int)) / 2 = (h : Int) := by omega
        have hb0 : s0 ≤ h ∧ h < r0 := by omega
        obtain ⟨p, hp⟩ : ∃ p, p = mid + m - 1 - h := ⟨_, rfl⟩
        have hp2 : m ≤ p ∧ p < b := by omega
        have e4 : (mid : Int) + (m : Int) - 1 - (h : Int) = (p : Int) := by omega
        have e5 : IntKind.i64.wrap (p : Int) = (p : Int) := by rw [IntKind.wrap_i64]; omega
        have b1 : (h : Int) < (d.size : Int) := by omega
        have b2 : (p : Int) < (d.size : Int) := by omega
        obtain ⟨x, hx⟩ : ∃ x, x = d[p]! := ⟨_, rfl⟩
        obtain ⟨y, hy⟩ : ∃ x, x = d[h]! := ⟨_, rfl⟩
        have l1 := S1.out.cl R (by omega) p (by omega)
        have l2 := S1.out.cl R (by omega) h (by omega)
        rw [← hx] at l1
        rw [← hy] at l2
        have hc := S1.out.cmp HC.out (by omega) x y
        have AG : Aside (cfB x y < 0 ↔ ltT x y = true) := by rw [hx, hy]; exact HA.out h p (by omega) (by omega) (by omega) (by omega)
        have X : Aside (x = d[p]!) := hx
        have Y : Aside (y = d[h]!) := hy
        have HH : Aside (h = (i + j) / 2) := hh
        have HP : Aside (p = mid + m - 1 - h) := hp
        clear hx hy hh hp
        cases hv : ltT x y with
        | true =>
          have hd1 : decide (cfB x y < 0) = true := decide_eq_true (AG.out.2 hv)
          have hd2 : cfB x y < 0 := AG.out.2 hv
          have V : Aside (ltT x y = true) := hv
          clear hv
          go_wp2_with fail
          go_quiet_grown (first | (go_at_fn 18; refine Calls.grown_of (hc _ _)))
          have S2 : Aside (SW encB w0 blk off d (grow (wr.drewN nq) osq)) := S1.out.grown nq osq
          clear l1 l2 hc S1
          generalize grow (wr.drewN nq) osq = w2 at S2 ⊢
          clear nq osq
          go_wp2
          go_roundg (h - i)
          case measure => have := HH.out; omega
          case rel =>
            refine ⟨i, h, rfl, by first | rfl | go_num, hai, by have := HH.out; omega, by have := HH.out; omega, Nat.le_refl _, S2, H1, (show Aside _ from fun t h3 h4 => ?_)⟩
            have hv := V.out
            rw [X.out, Y.out, HP.out] at hv
            have hq := HP.out
            exact test_up HL.out HR.out (c := h) (by omega) h3 (by omega) (by omega) (by omega) hv
        | false =>
          have hd1 : decide (cfB x y < 0) = false := decide_eq_false (fun q => by rw [AG.out.1 q] at hv; cases hv)
          have hd2 : ¬ cfB x y < 0 := fun q => by rw [AG.out.1 q] at hv; cases hv
          have V : Aside (ltT x y = false) := hv
          clear hv
          go_wp2_with fail
          go_quiet_grown (first | (go_at_fn 18; refine Calls.grown_of (hc _ _)))
          have S2 : Aside (SW encB w0 blk off d (grow (wr.drewN nq) osq)) := S1.out.grown nq osq
          clear l1 l2 hc S1
          generalize grow (wr.drewN nq) osq = w2 at S2 ⊢
          clear nq osq
          go_wp2
          go_roundg (j - (h + 1))
          case measure => have := HH.out; omega
          case rel =>
            refine ⟨h + 1, j, by go_num, rfl, by have := HH.out; omega, by have := HH.out; omega, hjb, Nat.le_refl _, S2, (show Aside _ from fun t h3 h4 => ?_), H2⟩
            have hv := V.out
            rw [X.out, Y.out, HP.out] at hv
            have hq := HP.out
            cases hw : ltT d[mid + m - 1 - t]! d[t]! with
            | false => rfl
            | true =>
              have := test_up HL.out HR.out (c := t) (c' := h) (n := mid + m) (by omega) (by omega) (by omega) (by omega) (by omega) hw
              rw [this] at hv
              cases hv
      · obtain rfl : i = j := by omega
        have hltz : ¬ (i : Int) < (i : Int) := by omega
        obtain ⟨e, he⟩ : ∃ e, e = mid + m - i := ⟨_, rfl⟩
        have e4 : (mid : Int) + (m : Int) - (i : Int) = (e : Int) := by omega
        have CR := fun d1 => cross (d1 := d1) HM.out he (by omega) (by omega) HL.out HR.out HK.out hai hjb H1.out H2.out
        have hb := (show a ≤ i ∧ i ≤ mid ∧ i ≤ m ∧ m ≤ e ∧ mid ≤ e ∧ e ≤ b ∧ i + (e - m) = mid from by omega)
        have CR : Aside _ := CR
        have HB : Aside (a ≤ i ∧ i ≤ mid ∧ i ≤ m ∧ m ≤ e ∧ mid ≤ e ∧ e ≤ b ∧ i + (e - m) = mid) := hb
        clear he hltz
        have hltz : ¬ (i : Int) < (i : Int) := by omega
        by_cases qim : i < m
        · skip
          by_cases qimid : i < mid
          · skip
            by_cases qai : a < i
            · skip
              by_cases qeb : e < b
              · skip
                have gim : (i : Int) < (m : Int) := by omega
                have gme : (m : Int) < (e : Int) := by omega
                have gai : (a : Int) < (i : Int) := by omega
                have gimid : (i : Int) < (mid : Int) := by omega
                have gmide : (mid : Int) < (e : Int) := by omega
                have geb : (e : Int) < (b : Int) := by omega
                have rot := rotate_calls i m e cap (.func (.func 18) #[] #[]) R (d := d) (by omega) S1.out (by omega) (by omega) (by omega) (by omega)
                go_wp2_with fail
                refine rot.mono ?_
                rintro ee w1 ⟨rfl, d1, X1, Z1⟩
                have X1 : Aside (RoR i m e d d1) := X1
                have Z1 : Aside (SW encB w0 blk off d1 w1) := Z1
                have z1 : Aside (d1.size = d.size) := X1.out.size
                have PT := parts HL.out HR.out HA.out HB.out X1.out.at_
                have PT : Aside _ := PT
                have y1 := z1.out
                have r1 := I.out a i mid (by omega) d1 _ (by omega) Z1.out (by omega) (by omega) (by omega) PT.out.1.2.2 PT.out.1.1 PT.out.1.2.1
                rw [z1.out] at r1
                clear y1
                go_wp2_with fail
                refine r1.mono ?_
                rintro ee w2 ⟨rfl, d2, P2, S2, Z2⟩
                have P2 : Aside (PermIn a mid d1 d2) := P2
                have S2 : Aside (SortedIn ltT a mid d2) := S2
                have Z2 : Aside (SW encB w0 blk off d2 w2) := Z2
                have z2 : Aside (d2.size = d.size) := P2.out.1.trans z1.out
                have PH := PT.out.2 d2 (fun t ht => P2.out.2.1 t (.inr ht))
                have PH : Aside _ := PH
                have y2 := z2.out
                have r2 := I.out mid e b (by omega) d2 _ (by omega) Z2.out (by omega) (by omega) (by omega) PH.out.2.2 PH.out.1 PH.out.2.1
                rw [z2.out] at r2
                clear y2
                go_wp2_with fail
                refine r2.mono ?_
                rintro ee w3 ⟨rfl, d3, P3, S3, Z3⟩
                have P3 : Aside (PermIn mid b d2 d3) := P3
                have S3 : Aside (SortedIn ltT mid b d3) := S3
                have Z3 : Aside (SW encB w0 blk off d3 _) := Z3
                go_wp2
                go_end0
                have y1 := z1.out
                have y2 := z2.out
                have HF := halves (a := a) (mid := mid) (b := b) (d1 := d1) (by omega) (by omega) (by omega) (CR.out d1 X1.out.at_).2 P2.out S2.out P3.out S3.out
                exact ⟨rfl, d3, permIn_trans _ _ _ _ _ (permIn_mono _ _ _ _ _ _ hb.1 hb.2.2.2.2.2.1 (by omega) X1.out.perm) HF.1, HF.2, Z3.out⟩
              · skip
                have gim : (i : Int) < (m : Int) := by omega
                have gme : (m : Int) < (e : Int) := by omega
                have gai : (a : Int) < (i : Int) := by omega
                have gimid : (i : Int) < (mid : Int) := by omega
                have gmide : (mid : Int) < (e : Int) := by omega
                have geb : ¬ (e : Int) < (b : Int) := by omega
                have rot := rotate_calls i m e cap (.func (.func 18) #[] #[]) R (d := d) (by omega) S1.out (by omega) (by omega) (by omega) (by omega)
                go_wp2_with fail
                refine rot.mono ?_
                rintro ee w1 ⟨rfl, d1, X1, Z1⟩
                have X1 : Aside (RoR i m e d d1) := X1
                have Z1 : Aside (SW encB w0 blk off d1 w1) := Z1
                have z1 : Aside (d1.size = d.size) := X1.out.size
                have PT := parts HL.out HR.out HA.out HB.out X1.out.at_
                have PT : Aside _ := PT
                have y1 := z1.out
                have r1 := I.out a i mid (by omega) d1 _ (by omega) Z1.out (by omega) (by omega) (by omega) PT.out.1.2.2 PT.out.1.1 PT.out.1.2.1
                rw [z1.out] at r1
                clear y1
                go_wp2_with fail
                refine r1.mono ?_
                rintro ee w2 ⟨rfl, d2, P2, S2, Z2⟩
                have P2 : Aside (PermIn a mid d1 d2) := P2
                have S2 : Aside (SortedIn ltT a mid d2) := S2
                have Z2 : Aside (SW encB w0 blk off d2 w2) := Z2
                have z2 : Aside (d2.size = d.size) := P2.out.1.trans z1.out
                have PH := PT.out.2 d2 (fun t ht => P2.out.2.1 t (.inr ht))
                have PH : Aside _ := PH
                have P3 : PermIn mid b d2 d2 := permIn_refl _ _ _
                have S3 : SortedIn ltT mid b d2 := sorted_whole PH.out.1 PH.out.2.1 (by omega)
                have Z3 := Z2.out
                have P3 : Aside (PermIn mid b d2 d2) := P3
                have S3 : Aside (SortedIn ltT mid b d2) := S3
                have Z3 : Aside (SW encB w0 blk off d2 _) := Z3
                go_wp2
                go_end0
                have y1 := z1.out
                have y2 := z2.out
                have HF := halves (a := a) (mid := mid) (b := b) (d1 := d1) (by omega) (by omega) (by omega) (CR.out d1 X1.out.at_).2 P2.out S2.out P3.out S3.out
                exact ⟨rfl, d2, permIn_trans _ _ _ _ _ (permIn_mono _ _ _ _ _ _ hb.1 hb.2.2.2.2.2.1 (by omega) X1.out.perm) HF.1, HF.2, Z3.out⟩
            · skip
              by_cases qeb : e < b
              · skip
                have gim : (i : Int) < (m : Int) := by omega
                have gme : (m : Int) < (e : Int) := by omega
                have gai : ¬ (a : Int) < (i : Int) := by omega
                have gmide : (mid : Int) < (e : Int) := by omega
                have geb : (e : Int) < (b : Int) := by omega
                have rot := rotate_calls i m e cap (.func (.func 18) #[] #[]) R (d := d) (by omega) S1.out (by omega) (by omega) (by omega) (by omega)
                go_wp2_with fail
                refine rot.mono ?_
                rintro ee w1 ⟨rfl, d1, X1, Z1⟩
                have X1 : Aside (RoR i m e d d1) := X1
                have Z1 : Aside (SW encB w0 blk off d1 w1) := Z1
                have z1 : Aside (d1.size = d.size) := X1.out.size
                have PT := parts HL.out HR.out HA.out HB.out X1.out.at_
                have PT : Aside _ := PT
                have P2 : Aside (PermIn a mid d1 d1) := permIn_refl _ _ _
                have S2 : Aside (SortedIn ltT a mid d1) := sorted_whole PT.out.1.1 PT.out.1.2.1 (by omega)
                have Z2 := Z1
                have PH := PT.out.2 d1 (fun t ht => P2.out.2.1 t (.inr ht))
                have PH : Aside _ := PH
                have y2 := z1.out
                have r2 := I.out mid e b (by omega) d1 _ (by omega) Z2.out (by omega) (by omega) (by omega) PH.out.2.2 PH.out.1 PH.out.2.1
                rw [z1.out] at r2
                clear y2
                go_wp2_with fail
                refine r2.mono ?_
                rintro ee w3 ⟨rfl, d3, P3, S3, Z3⟩
                have P3 : Aside (PermIn mid b d1 d3) := P3
                have S3 : Aside (SortedIn ltT mid b d3) := S3
                have Z3 : Aside (SW encB w0 blk off d3 _) := Z3
                go_wp2
                go_end0
                have y1 := z1.out
                have y2 := z1.out
                have HF := halves (a := a) (mid := mid) (b := b) (d1 := d1) (by omega) (by omega) (by omega) (CR.out d1 X1.out.at_).2 P2.out S2.out P3.out S3.out
                exact ⟨rfl, d3, permIn_trans _ _ _ _ _ (permIn_mono _ _ _ _ _ _ hb.1 hb.2.2.2.2.2.1 (by omega) X1.out.perm) HF.1, HF.2, Z3.out⟩
              · skip
                have gim : (i : Int) < (m : Int) := by omega
                have gme : (m : Int) < (e : Int) := by omega
                have gai : ¬ (a : Int) < (i : Int) := by omega
                have gmide : (mid : Int) < (e : Int) := by omega
                have geb : ¬ (e : Int) < (b : Int) := by omega
                have rot := rotate_calls i m e cap (.func (.func 18) #[] #[]) R (d := d) (by omega) S1.out (by omega) (by omega) (by omega) (by omega)
                go_wp2_with fail
                refine rot.mono ?_
                rintro ee w1 ⟨rfl, d1, X1, Z1⟩
                have X1 : Aside (RoR i m e d d1) := X1
                have Z1 : Aside (SW encB w0 blk off d1 w1) := Z1
                have z1 : Aside (d1.size = d.size) := X1.out.size
                have PT := parts HL.out HR.out HA.out HB.out X1.out.at_
                have PT : Aside _ := PT
                have P2 : Aside (PermIn a mid d1 d1) := permIn_refl _ _ _
                have S2 : Aside (SortedIn ltT a mid d1) := sorted_whole PT.out.1.1 PT.out.1.2.1 (by omega)
                have Z2 := Z1
                have PH := PT.out.2 d1 (fun t ht => P2.out.2.1 t (.inr ht))
                have PH : Aside _ := PH
                have P3 : PermIn mid b d1 d1 := permIn_refl _ _ _
                have S3 : SortedIn ltT mid b d1 := sorted_whole PH.out.1 PH.out.2.1 (by omega)
                have Z3 := Z2.out
                have P3 : Aside (PermIn mid b d1 d1) := P3
                have S3 : Aside (SortedIn ltT mid b d1) := S3
                have Z3 : Aside (SW encB w0 blk off d1 _) := Z3
                go_wp2
                go_end0
                have y1 := z1.out
                have y2 := z1.out
                have HF := halves (a := a) (mid := mid) (b := b) (d1 := d1) (by omega) (by omega) (by omega) (CR.out d1 X1.out.at_).2 P2.out S2.out P3.out S3.out
                exact ⟨rfl, d1, permIn_trans _ _ _ _ _ (permIn_mono _ _ _ _ _ _ hb.1 hb.2.2.2.2.2.1 (by omega) X1.out.perm) HF.1, HF.2, Z3.out⟩
          · skip
            by_cases qai : a < i
            · skip
              by_cases qeb : e < b
              · skip
                have gim : (i : Int) < (m : Int) := by omega
                have gme : ¬ (m : Int) < (e : Int) := by omega
                have gai : (a : Int) < (i : Int) := by omega
                have gimid : ¬ (i : Int) < (mid : Int) := by omega
                have gmide : (mid : Int) < (e : Int) := by omega
                have geb : (e : Int) < (b : Int) := by omega
                have X1 : Aside (RoR i m e d d) := RoR.self d (by omega) hb.2.2.1 hb.2.2.2.1
                have Z1 : Aside (SW encB w0 blk off d wr) := S1
                have PT := parts HL.out HR.out HA.out HB.out X1.out.at_
                have PT : Aside _ := PT
                have P2 : Aside (PermIn a mid d d) := permIn_refl _ _ _
                have S2 : Aside (SortedIn ltT a mid d) := sorted_whole PT.out.1.1 PT.out.1.2.1 (by omega)
                have Z2 := Z1
                have PH := PT.out.2 d (fun t ht => P2.out.2.1 t (.inr ht))
                have PH : Aside _ := PH
                have y2 := (Eq.refl d.size)
                have r2 := I.out mid e b (by omega) d _ (by omega) Z2.out (by omega) (by omega) (by omega) PH.out.2.2 PH.out.1 PH.out.2.1
                clear y2
                go_wp2_with fail
                refine r2.mono ?_
                rintro ee w3 ⟨rfl, d3, P3, S3, Z3⟩
                have P3 : Aside (PermIn mid b d d3) := P3
                have S3 : Aside (SortedIn ltT mid b d3) := S3
                have Z3 : Aside (SW encB w0 blk off d3 _) := Z3
                go_wp2
                go_end0
                have y1 := (Eq.refl d.size)
                have y2 := (Eq.refl d.size)
                have HF := halves (a := a) (mid := mid) (b := b) (d1 := d) (by omega) (by omega) (by omega) (CR.out d X1.out.at_).2 P2.out S2.out P3.out S3.out
                exact ⟨rfl, d3, permIn_trans _ _ _ _ _ (permIn_mono _ _ _ _ _ _ hb.1 hb.2.2.2.2.2.1 (by omega) X1.out.perm) HF.1, HF.2, Z3.out⟩
              · skip
                have gim : (i : Int) < (m : Int) := by omega
                have gme : ¬ (m : Int) < (e : Int) := by omega
                have gai : (a : Int) < (i : Int) := by omega
                have gimid : ¬ (i : Int) < (mid : Int) := by omega
                have gmide : (mid : Int) < (e : Int) := by omega
                have geb : ¬ (e : Int) < (b : Int) := by omega
                have X1 : Aside (RoR i m e d d) := RoR.self d (by omega) hb.2.2.1 hb.2.2.2.1
                have Z1 : Aside (SW encB w0 blk off d wr) := S1
                have PT := parts HL.out HR.out HA.out HB.out X1.out.at_
                have PT : Aside _ := PT
                have P2 : Aside (PermIn a mid d d) := permIn_refl _ _ _
                have S2 : Aside (SortedIn ltT a mid d) := sorted_whole PT.out.1.1 PT.out.1.2.1 (by omega)
                have Z2 := Z1
                have PH := PT.out.2 d (fun t ht => P2.out.2.1 t (.inr ht))
                have PH : Aside _ := PH
                have P3 : PermIn mid b d d := permIn_refl _ _ _
                have S3 : SortedIn ltT mid b d := sorted_whole PH.out.1 PH.out.2.1 (by omega)
                have Z3 := Z2.out
                have P3 : Aside (PermIn mid b d d) := P3
                have S3 : Aside (SortedIn ltT mid b d) := S3
                have Z3 : Aside (SW encB w0 blk off d _) := Z3
                go_wp2
                go_end0
                have y1 := (Eq.refl d.size)
                have y2 := (Eq.refl d.size)
                have HF := halves (a := a) (mid := mid) (b := b) (d1 := d) (by omega) (by omega) (by omega) (CR.out d X1.out.at_).2 P2.out S2.out P3.out S3.out
                exact ⟨rfl, d, permIn_trans _ _ _ _ _ (permIn_mono _ _ _ _ _ _ hb.1 hb.2.2.2.2.2.1 (by omega) X1.out.perm) HF.1, HF.2, Z3.out⟩
            · skip
              by_cases qeb : e < b
              · skip
                have gim : (i : Int) < (m : Int) := by omega
                have gme : ¬ (m : Int) < (e : Int) := by omega
                have gai : ¬ (a : Int) < (i : Int) := by omega
                have gmide : (mid : Int) < (e : Int) := by omega
                have geb : (e : Int) < (b : Int) := by omega
                have X1 : Aside (RoR i m e d d) := RoR.self d (by omega) hb.2.2.1 hb.2.2.2.1
                have Z1 : Aside (SW encB w0 blk off d wr) := S1
                have PT := parts HL.out HR.out HA.out HB.out X1.out.at_
                have PT : Aside _ := PT
                have P2 : Aside (PermIn a mid d d) := permIn_refl _ _ _
                have S2 : Aside (SortedIn ltT a mid d) := sorted_whole PT.out.1.1 PT.out.1.2.1 (by omega)
                have Z2 := Z1
                have PH := PT.out.2 d (fun t ht => P2.out.2.1 t (.inr ht))
                have PH : Aside _ := PH
                have y2 := (Eq.refl d.size)
                have r2 := I.out mid e b (by omega) d _ (by omega) Z2.out (by omega) (by omega) (by omega) PH.out.2.2 PH.out.1 PH.out.2.1
                clear y2
                go_wp2_with fail
                refine r2.mono ?_
                rintro ee w3 ⟨rfl, d3, P3, S3, Z3⟩
                have P3 : Aside (PermIn mid b d d3) := P3
                have S3 : Aside (SortedIn ltT mid b d3) := S3
                have Z3 : Aside (SW encB w0 blk off d3 _) := Z3
                go_wp2
                go_end0
                have y1 := (Eq.refl d.size)
                have y2 := (Eq.refl d.size)
                have HF := halves (a := a) (mid := mid) (b := b) (d1 := d) (by omega) (by omega) (by omega) (CR.out d X1.out.at_).2 P2.out S2.out P3.out S3.out
                exact ⟨rfl, d3, permIn_trans _ _ _ _ _ (permIn_mono _ _ _ _ _ _ hb.1 hb.2.2.2.2.2.1 (by omega) X1.out.perm) HF.1, HF.2, Z3.out⟩
              · skip
                have gim : (i : Int) < (m : Int) := by omega
                have gme : ¬ (m : Int) < (e : Int) := by omega
                have gai : ¬ (a : Int) < (i : Int) := by omega
                have gmide : (mid : Int) < (e : Int) := by omega
                have geb : ¬ (e : Int) < (b : Int) := by omega
                have X1 : Aside (RoR i m e d d) := RoR.self d (by omega) hb.2.2.1 hb.2.2.2.1
                have Z1 : Aside (SW encB w0 blk off d wr) := S1
                have PT := parts HL.out HR.out HA.out HB.out X1.out.at_
                have PT : Aside _ := PT
                have P2 : Aside (PermIn a mid d d) := permIn_refl _ _ _
                have S2 : Aside (SortedIn ltT a mid d) := sorted_whole PT.out.1.1 PT.out.1.2.1 (by omega)
                have Z2 := Z1
                have PH := PT.out.2 d (fun t ht => P2.out.2.1 t (.inr ht))
                have PH : Aside _ := PH
                have P3 : PermIn mid b d d := permIn_refl _ _ _
                have S3 : SortedIn ltT mid b d := sorted_whole PH.out.1 PH.out.2.1 (by omega)
                have Z3 := Z2.out
                have P3 : Aside (PermIn mid b d d) := P3
                have S3 : Aside (SortedIn ltT mid b d) := S3
                have Z3 : Aside (SW encB w0 blk off d _) := Z3
                go_wp2
                go_end0
                have y1 := (Eq.refl d.size)
                have y2 := (Eq.refl d.size)
                have HF := halves (a := a) (mid := mid) (b := b) (d1 := d) (by omega) (by omega) (by omega) (CR.out d X1.out.at_).2 P2.out S2.out P3.out S3.out
                exact ⟨rfl, d, permIn_trans _ _ _ _ _ (permIn_mono _ _ _ _ _ _ hb.1 hb.2.2.2.2.2.1 (by omega) X1.out.perm) HF.1, HF.2, Z3.out⟩
        · skip
          by_cases qimid : i < mid
          · skip
            by_cases qai : a < i
            · skip
              have gim : ¬ (i : Int) < (m : Int) := by omega
              have gai : (a : Int) < (i : Int) := by omega
              have gimid : (i : Int) < (mid : Int) := by omega
              have gmide : ¬ (mid : Int) < (e : Int) := by omega
              have X1 : Aside (RoR i m e d d) := RoR.self d (by omega) hb.2.2.1 hb.2.2.2.1
              have Z1 : Aside (SW encB w0 blk off d wr) := S1
              have PT := parts HL.out HR.out HA.out HB.out X1.out.at_
              have PT : Aside _ := PT
              have y1 := (Eq.refl d.size)
              have r1 := I.out a i mid (by omega) d _ (by omega) Z1.out (by omega) (by omega) (by omega) PT.out.1.2.2 PT.out.1.1 PT.out.1.2.1
              clear y1
              go_wp2_with fail
              refine r1.mono ?_
              rintro ee w2 ⟨rfl, d2, P2, S2, Z2⟩
              have P2 : Aside (PermIn a mid d d2) := P2
              have S2 : Aside (SortedIn ltT a mid d2) := S2
              have Z2 : Aside (SW encB w0 blk off d2 w2) := Z2
              have z2 : Aside (d2.size = d.size) := P2.out.1.trans (Eq.refl d.size)
              have PH := PT.out.2 d2 (fun t ht => P2.out.2.1 t (.inr ht))
              have PH : Aside _ := PH
              have P3 : PermIn mid b d2 d2 := permIn_refl _ _ _
              have S3 : SortedIn ltT mid b d2 := sorted_whole PH.out.1 PH.out.2.1 (by omega)
              have Z3 := Z2.out
              have P3 : Aside (PermIn mid b d2 d2) := P3
              have S3 : Aside (SortedIn ltT mid b d2) := S3
              have Z3 : Aside (SW encB w0 blk off d2 _) := Z3
              go_wp2
              go_end0
              have y1 := (Eq.refl d.size)
              have y2 := z2.out
              have HF := halves (a := a) (mid := mid) (b := b) (d1 := d) (by omega) (by omega) (by omega) (CR.out d X1.out.at_).2 P2.out S2.out P3.out S3.out
              exact ⟨rfl, d2, permIn_trans _ _ _ _ _ (permIn_mono _ _ _ _ _ _ hb.1 hb.2.2.2.2.2.1 (by omega) X1.out.perm) HF.1, HF.2, Z3.out⟩
            · skip
              have gim : ¬ (i : Int) < (m : Int) := by omega
              have gai : ¬ (a : Int) < (i : Int) := by omega
              have gmide : ¬ (mid : Int) < (e : Int) := by omega
              have X1 : Aside (RoR i m e d d) := RoR.self d (by omega) hb.2.2.1 hb.2.2.2.1
              have Z1 : Aside (SW encB w0 blk off d wr) := S1
              have PT := parts HL.out HR.out HA.out HB.out X1.out.at_
              have PT : Aside _ := PT
              have P2 : Aside (PermIn a mid d d) := permIn_refl _ _ _
              have S2 : Aside (SortedIn ltT a mid d) := sorted_whole PT.out.1.1 PT.out.1.2.1 (by omega)
              have Z2 := Z1
              have PH := PT.out.2 d (fun t ht => P2.out.2.1 t (.inr ht))
              have PH : Aside _ := PH
              have P3 : PermIn mid b d d := permIn_refl _ _ _
              have S3 : SortedIn ltT mid b d := sorted_whole PH.out.1 PH.out.2.1 (by omega)
              have Z3 := Z2.out
              have P3 : Aside (PermIn mid b d d) := P3
              have S3 : Aside (SortedIn ltT mid b d) := S3
              have Z3 : Aside (SW encB w0 blk off d _) := Z3
              go_wp2
              go_end0
              have y1 := (Eq.refl d.size)
              have y2 := (Eq.refl d.size)
              have HF := halves (a := a) (mid := mid) (b := b) (d1 := d) (by omega) (by omega) (by omega) (CR.out d X1.out.at_).2 P2.out S2.out P3.out S3.out
              exact ⟨rfl, d, permIn_trans _ _ _ _ _ (permIn_mono _ _ _ _ _ _ hb.1 hb.2.2.2.2.2.1 (by omega) X1.out.perm) HF.1, HF.2, Z3.out⟩
          · skip
            by_cases qai : a < i
            · skip
              have gim : ¬ (i : Int) < (m : Int) := by omega
              have gai : (a : Int) < (i : Int) := by omega
              have gimid : ¬ (i : Int) < (mid : Int) := by omega
              have gmide : ¬ (mid : Int) < (e : Int) := by omega
              have X1 : Aside (RoR i m e d d) := RoR.self d (by omega) hb.2.2.1 hb.2.2.2.1
              have Z1 : Aside (SW encB w0 blk off d wr) := S1
              have PT := parts HL.out HR.out HA.out HB.out X1.out.at_
              have PT : Aside _ := PT
              have P2 : Aside (PermIn a mid d d) := permIn_refl _ _ _
              have S2 : Aside (SortedIn ltT a mid d) := sorted_whole PT.out.1.1 PT.out.1.2.1 (by omega)
              have Z2 := Z1
              have PH := PT.out.2 d (fun t ht => P2.out.2.1 t (.inr ht))
              have PH : Aside _ := PH
              have P3 : PermIn mid b d d := permIn_refl _ _ _
              have S3 : SortedIn ltT mid b d := sorted_whole PH.out.1 PH.out.2.1 (by omega)
              have Z3 := Z2.out
              have P3 : Aside (PermIn mid b d d) := P3
              have S3 : Aside (SortedIn ltT mid b d) := S3
              have Z3 : Aside (SW encB w0 blk off d _) := Z3
              go_wp2
              go_end0
              have y1 := (Eq.refl d.size)
              have y2 := (Eq.refl d.size)
              have HF := halves (a := a) (mid := mid) (b := b) (d1 := d) (by omega) (by omega) (by omega) (CR.out d X1.out.at_).2 P2.out S2.out P3.out S3.out
              exact ⟨rfl, d, permIn_trans _ _ _ _ _ (permIn_mono _ _ _ _ _ _ hb.1 hb.2.2.2.2.2.1 (by omega) X1.out.perm) HF.1, HF.2, Z3.out⟩
            · skip
              have gim : ¬ (i : Int) < (m : Int) := by omega
              have gai : ¬ (a : Int) < (i : Int) := by omega
              have gmide : ¬ (mid : Int) < (e : Int) := by omega
              have X1 : Aside (RoR i m e d d) := RoR.self d (by omega) hb.2.2.1 hb.2.2.2.1
              have Z1 : Aside (SW encB w0 blk off d wr) := S1
              have PT := parts HL.out HR.out HA.out HB.out X1.out.at_
              have PT : Aside _ := PT
              have P2 : Aside (PermIn a mid d d) := permIn_refl _ _ _
              have S2 : Aside (SortedIn ltT a mid d) := sorted_whole PT.out.1.1 PT.out.1.2.1 (by omega)
              have Z2 := Z1
              have PH := PT.out.2 d (fun t ht => P2.out.2.1 t (.inr ht))
              have PH : Aside _ := PH
              have P3 : PermIn mid b d d := permIn_refl _ _ _
              have S3 : SortedIn ltT mid b d := sorted_whole PH.out.1 PH.out.2.1 (by omega)
              have Z3 := Z2.out
              have P3 : Aside (PermIn mid b d d) := P3
              have S3 : Aside (SortedIn ltT mid b d) := S3
              have Z3 : Aside (SW encB w0 blk off d _) := Z3
              go_wp2
              go_end0
              have y1 := (Eq.refl d.size)
              have y2 := (Eq.refl d.size)
              have HF := halves (a := a) (mid := mid) (b := b) (d1 := d) (by omega) (by omega) (by omega) (CR.out d X1.out.at_).2 P2.out S2.out P3.out S3.out
              exact ⟨rfl, d, permIn_trans _ _ _ _ _ (permIn_mono _ _ _ _ _ _ hb.1 hb.2.2.2.2.2.1 (by omega) X1.out.perm) HF.1, HF.2, Z3.out⟩
  · have g1 : ¬ (mid : Int) < (m : Int) := by omega
    go_wp2
    go_loopg [20, 21] m (fun g vi vj wr => ∃ (i j : Nat), vi = .int .i64 i ∧ vj = .int .i64 j ∧ s0 ≤ i ∧ i ≤ j ∧ j ≤ r0 ∧ j - i ≤ g ∧ Aside (SW encB w0 blk off d wr) ∧ Aside (∀ c, s0 ≤ c → c < i → ltT d[mid + m - 1 - c]! d[c]! = false) ∧ Aside (∀ c, j ≤ c → c < r0 → ltT d[mid + m - 1 - c]! d[c]! = true))
    case atStart => exact ⟨s0, r0, by first | rfl | (rw [c2]) | go_num, by first | rfl | (rw [c3]), Nat.le_refl _, by omega, Nat.le_refl _, by omega, S0, fun t _ _ => absurd (show t < t by omega) (Nat.lt_irrefl _), fun t _ _ => absurd (show t < t by omega) (Nat.lt_irrefl _)⟩
    case round =>
      clear S0 e1 e2 e3 c1 c2 c3 g1 
      obtain ⟨i, j, rfl, rfl, hai, hij, hjb, hg, S1, H1, H2⟩ := hrel
      by_cases hlt : i < j
      · have hltz : (i : Int) < (j : Int) := by omega
        obtain ⟨h, hh⟩ : ∃ h, h = (i + j) / 2 := ⟨_, rfl⟩
        have e3 : ((i : Int) + (j : Int)) / 2 = (h : Int) := by omega
        have hb0 : s0 ≤ h ∧ h < r0 := by omega
        obtain ⟨p, hp⟩ : ∃ p, p = mid + m - 1 - h := ⟨_, rfl⟩
        have hp2 : m ≤ p ∧ p < b := by omega
        have e4 : (mid : Int) + (m : Int) - 1 - (h : Int) = (p : Int) := by omega
        have e5 : IntKind.i64.wrap (p : Int) = (p : Int) := by rw [IntKind.wrap_i64]; omega
        have b1 : (h : Int) < (d.size : Int) := by omega
        have b2 : (p : Int) < (d.size : Int) := by omega
        obtain ⟨x, hx⟩ : ∃ x, x = d[p]! := ⟨_, rfl⟩
        obtain ⟨y, hy⟩ : ∃ x, x = d[h]! := ⟨_, rfl⟩
        have l1 := S1.out.cl R (by omega) p (by omega)
        have l2 := S1.out.cl R (by omega) h (by omega)
        rw [← hx] at l1
        rw [← hy] at l2
        have hc := S1.out.cmp HC.out (by omega) x y
        have AG : Aside (cfB x y < 0 ↔ ltT x y = true) := by rw [hx, hy]; exact HA.out h p (by omega) (by omega) (by omega) (by omega)
        have X : Aside (x = d[p]!) := hx
        have Y : Aside (y = d[h]!) := hy
        have HH : Aside (h = (i + j) / 2) := hh
        have HP : Aside (p = mid + m - 1 - h) := hp
        clear hx hy hh hp
        cases hv : ltT x y with
        | true =>
          have hd1 : decide (cfB x y < 0) = true := decide_eq_true (AG.out.2 hv)
          have hd2 : cfB x y < 0 := AG.out.2 hv
          have V : Aside (ltT x y = true) := hv
          clear hv
          go_wp2_with fail
          go_quiet_grown (first | (go_at_fn 18; refine Calls.grown_of (hc _ _)))
          have S2 : Aside (SW encB w0 blk off d (grow (wr.drewN nq) osq)) := S1.out.grown nq osq
          clear l1 l2 hc S1
          generalize grow (wr.drewN nq) osq = w2 at S2 ⊢
          clear nq osq
          go_wp2
          go_roundg (h - i)
          case measure => have := HH.out; omega
          case rel =>
            refine ⟨i, h, rfl, by first | rfl | go_num, hai, by have := HH.out; omega, by have := HH.out; omega, Nat.le_refl _, S2, H1, (show Aside _ from fun t h3 h4 => ?_)⟩
            have hv := V.out
            rw [X.out, Y.out, HP.out] at hv
            have hq := HP.out
            exact test_up HL.out HR.out (c := h) (by omega) h3 (by omega) (by omega) (by omega) hv
        | false =>
          have hd1 : decide (cfB x y < 0) = false := decide_eq_false (fun q => by rw [AG.out.1 q] at hv; cases hv)
          have hd2 : ¬ cfB x y < 0 := fun q => by rw [AG.out.1 q] at hv; cases hv
          have V : Aside (ltT x y = false) := hv
          clear hv
          go_wp2_with fail
          go_quiet_grown (first | (go_at_fn 18; refine Calls.grown_of (hc _ _)))
          have S2 : Aside (SW encB w0 blk off d (grow (wr.drewN nq) osq)) := S1.out.grown nq osq
          clear l1 l2 hc S1
          generalize grow (wr.drewN nq) osq = w2 at S2 ⊢
          clear nq osq
          go_wp2
          go_roundg (j - (h + 1))
          case measure => have := HH.out; omega
          case rel =>
            refine ⟨h + 1, j, by go_num, rfl, by have := HH.out; omega, by have := HH.out; omega, hjb, Nat.le_refl _, S2, (show Aside _ from fun t h3 h4 => ?_), H2⟩
            have hv := V.out
            rw [X.out, Y.out, HP.out] at hv
            have hq := HP.out
            cases hw : ltT d[mid + m - 1 - t]! d[t]! with
            | false => rfl
            | true =>
              have := test_up HL.out HR.out (c := t) (c' := h) (n := mid + m) (by omega) (by omega) (by omega) (by omega) (by omega) hw
              rw [this] at hv
              cases hv
      · obtain rfl : i = j := by omega
        have hltz : ¬ (i : Int) < (i : Int) := by omega
        obtain ⟨e, he⟩ : ∃ e, e = mid + m - i := ⟨_, rfl⟩
        have e4 : (mid : Int) + (m : Int) - (i : Int) = (e : Int) := by omega
        have CR := fun d1 => cross (d1 := d1) HM.out he (by omega) (by omega) HL.out HR.out HK.out hai hjb H1.out H2.out
        have hb := (show a ≤ i ∧ i ≤ mid ∧ i ≤ m ∧ m ≤ e ∧ mid ≤ e ∧ e ≤ b ∧ i + (e - m) = mid from by omega)
        have CR : Aside _ := CR
        have HB : Aside (a ≤ i ∧ i ≤ mid ∧ i ≤ m ∧ m ≤ e ∧ mid ≤ e ∧ e ≤ b ∧ i + (e - m) = mid) := hb
        clear he hltz
        have hltz : ¬ (i : Int) < (i : Int) := by omega
        by_cases qim : i < m
        · skip
          by_cases qimid : i < mid
          · skip
            by_cases qai : a < i
            · skip
              by_cases qeb : e < b
              · skip
                have gim : (i : Int) < (m : Int) := by omega
                have gme : (m : Int) < (e : Int) := by omega
                have gai : (a : Int) < (i : Int) := by omega
                have gimid : (i : Int) < (mid : Int) := by omega
                have gmide : (mid : Int) < (e : Int) := by omega
                have geb : (e : Int) < (b : Int) := by omega
                have rot := rotate_calls i m e cap (.func (.func 18) #[] #[]) R (d := d) (by omega) S1.out (by omega) (by omega) (by omega) (by omega)
                go_wp2_with fail
                refine rot.mono ?_
                rintro ee w1 ⟨rfl, d1, X1, Z1⟩
                have X1 : Aside (RoR i m e d d1) := X1
                have Z1 : Aside (SW encB w0 blk off d1 w1) := Z1
                have z1 : Aside (d1.size = d.size) := X1.out.size
                have PT := parts HL.out HR.out HA.out HB.out X1.out.at_
                have PT : Aside _ := PT
                have y1 := z1.out
                have r1 := I.out a i mid (by omega) d1 _ (by omega) Z1.out (by omega) (by omega) (by omega) PT.out.1.2.2 PT.out.1.1 PT.out.1.2.1
                rw [z1.out] at r1
                clear y1
                go_wp2_with fail
                refine r1.mono ?_
                rintro ee w2 ⟨rfl, d2, P2, S2, Z2⟩
                have P2 : Aside (PermIn a mid d1 d2) := P2
                have S2 : Aside (SortedIn ltT a mid d2) := S2
                have Z2 : Aside (SW encB w0 blk off d2 w2) := Z2
                have z2 : Aside (d2.size = d.size) := P2.out.1.trans z1.out
                have PH := PT.out.2 d2 (fun t ht => P2.out.2.1 t (.inr ht))
                have PH : Aside _ := PH
                have y2 := z2.out
                have r2 := I.out mid e b (by omega) d2 _ (by omega) Z2.out (by omega) (by omega) (by omega) PH.out.2.2 PH.out.1 PH.out.2.1
                rw [z2.out] at r2
                clear y2
                go_wp2_with fail
                refine r2.mono ?_
                rintro ee w3 ⟨rfl, d3, P3, S3, Z3⟩
                have P3 : Aside (PermIn mid b d2 d3) := P3
                have S3 : Aside (SortedIn ltT mid b d3) := S3
                have Z3 : Aside (SW encB w0 blk off d3 _) := Z3
                go_wp2
                go_end0
                have y1 := z1.out
                have y2 := z2.out
                have HF := halves (a := a) (mid := mid) (b := b) (d1 := d1) (by omega) (by omega) (by omega) (CR.out d1 X1.out.at_).2 P2.out S2.out P3.out S3.out
                exact ⟨rfl, d3, permIn_trans _ _ _ _ _ (permIn_mono _ _ _ _ _ _ hb.1 hb.2.2.2.2.2.1 (by omega) X1.out.perm) HF.1, HF.2, Z3.out⟩
              · skip
                have gim : (i : Int) < (m : Int) := by omega
                have gme : (m : Int) < (e : Int) := by omega
                have gai : (a : Int) < (i : Int) := by omega
                have gimid : (i : Int) < (mid : Int) := by omega
                have gmide : (mid : Int) < (e : Int) := by omega
                have geb : ¬ (e : Int) < (b : Int) := by omega
                have rot := rotate_calls i m e cap (.func (.func 18) #[] #[]) R (d := d) (by omega) S1.out (by omega) (by omega) (by omega) (by omega)
                go_wp2_with fail
                refine rot.mono ?_
                rintro ee w1 ⟨rfl, d1, X1, Z1⟩
                have X1 : Aside (RoR i m e d d1) := X1
                have Z1 : Aside (SW encB w0 blk off d1 w1) := Z1
                have z1 : Aside (d1.size = d.size) := X1.out.size
                have PT := parts HL.out HR.out HA.out HB.out X1.out.at_
                have PT : Aside _ := PT
                have y1 := z1.out
                have r1 := I.out a i mid (by omega) d1 _ (by omega) Z1.out (by omega) (by omega) (by omega) PT.out.1.2.2 PT.out.1.1 PT.out.1.2.1
                rw [z1.out] at r1
                clear y1
                go_wp2_with fail
                refine r1.mono ?_
                rintro ee w2 ⟨rfl, d2, P2, S2, Z2⟩
                have P2 : Aside (PermIn a mid d1 d2) := P2
                have S2 : Aside (SortedIn ltT a mid d2) := S2
                have Z2 : Aside (SW encB w0 blk off d2 w2) := Z2
                have z2 : Aside (d2.size = d.size) := P2.out.1.trans z1.out
                have PH := PT.out.2 d2 (fun t ht => P2.out.2.1 t (.inr ht))
                have PH : Aside _ := PH
                have P3 : PermIn mid b d2 d2 := permIn_refl _ _ _
                have S3 : SortedIn ltT mid b d2 := sorted_whole PH.out.1 PH.out.2.1 (by omega)
                have Z3 := Z2.out
                have P3 : Aside (PermIn mid b d2 d2) := P3
                have S3 : Aside (SortedIn ltT mid b d2) := S3
                have Z3 : Aside (SW encB w0 blk off d2 _) := Z3
                go_wp2
                go_end0
                have y1 := z1.out
                have y2 := z2.out
                have HF := halves (a := a) (mid := mid) (b := b) (d1 := d1) (by omega) (by omega) (by omega) (CR.out d1 X1.out.at_).2 P2.out S2.out P3.out S3.out
                exact ⟨rfl, d2, permIn_trans _ _ _ _ _ (permIn_mono _ _ _ _ _ _ hb.1 hb.2.2.2.2.2.1 (by omega) X1.out.perm) HF.1, HF.2, Z3.out⟩
            · skip
              by_cases qeb : e < b
              · skip
                have gim : (i : Int) < (m : Int) := by omega
                have gme : (m : Int) < (e : Int) := by omega
                have gai : ¬ (a : Int) < (i : Int) := by omega
                have gmide : (mid : Int) < (e : Int) := by omega
                have geb : (e : Int) < (b : Int) := by omega
                have rot := rotate_calls i m e cap (.func (.func 18) #[] #[]) R (d := d) (by omega) S1.out (by omega) (by omega) (by omega) (by omega)
                go_wp2_with fail
                refine rot.mono ?_
                rintro ee w1 ⟨rfl, d1, X1, Z1⟩
                have X1 : Aside (RoR i m e d d1) := X1
                have Z1 : Aside (SW encB w0 blk off d1 w1) := Z1
                have z1 : Aside (d1.size = d.size) := X1.out.size
                have PT := parts HL.out HR.out HA.out HB.out X1.out.at_
                have PT : Aside _ := PT
                have P2 : Aside (PermIn a mid d1 d1) := permIn_refl _ _ _
                have S2 : Aside (SortedIn ltT a mid d1) := sorted_whole PT.out.1.1 PT.out.1.2.1 (by omega)
                have Z2 := Z1
                have PH := PT.out.2 d1 (fun t ht => P2.out.2.1 t (.inr ht))
                have PH : Aside _ := PH
                have y2 := z1.out
                have r2 := I.out mid e b (by omega) d1 _ (by omega) Z2.out (by omega) (by omega) (by omega) PH.out.2.2 PH.out.1 PH.out.2.1
                rw [z1.out] at r2
                clear y2
                go_wp2_with fail
                refine r2.mono ?_
                rintro ee w3 ⟨rfl, d3, P3, S3, Z3⟩
                have P3 : Aside (PermIn mid b d1 d3) := P3
                have S3 : Aside (SortedIn ltT mid b d3) := S3
                have Z3 : Aside (SW encB w0 blk off d3 _) := Z3
                go_wp2
                go_end0
                have y1 := z1.out
                have y2 := z1.out
                have HF := halves (a := a) (mid := mid) (b := b) (d1 := d1) (by omega) (by omega) (by omega) (CR.out d1 X1.out.at_).2 P2.out S2.out P3.out S3.out
                exact ⟨rfl, d3, permIn_trans _ _ _ _ _ (permIn_mono _ _ _ _ _ _ hb.1 hb.2.2.2.2.2.1 (by omega) X1.out.perm) HF.1, HF.2, Z3.out⟩
              · skip
                have gim : (i : Int) < (m : Int) := by omega
                have gme : (m : Int) < (e : Int) := by omega
                have gai : ¬ (a : Int) < (i : Int) := by omega
                have gmide : (mid : Int) < (e : Int) := by omega
                have geb : ¬ (e : Int) < (b : Int) := by omega
                have rot := rotate_calls i m e cap (.func (.func 18) #[] #[]) R (d := d) (by omega) S1.out (by omega) (by omega) (by omega) (by omega)
                go_wp2_with fail
                refine rot.mono ?_
                rintro ee w1 ⟨rfl, d1, X1, Z1⟩
                have X1 : Aside (RoR i m e d d1) := X1
                have Z1 : Aside (SW encB w0 blk off d1 w1) := Z1
                have z1 : Aside (d1.size = d.size) := X1.out.size
                have PT := parts HL.out HR.out HA.out HB.out X1.out.at_
                have PT : Aside _ := PT
                have P2 : Aside (PermIn a mid d1 d1) := permIn_refl _ _ _
                have S2 : Aside (SortedIn ltT a mid d1) := sorted_whole PT.out.1.1 PT.out.1.2.1 (by omega)
                have Z2 := Z1
                have PH := PT.out.2 d1 (fun t ht => P2.out.2.1 t (.inr ht))
                have PH : Aside _ := PH
                have P3 : PermIn mid b d1 d1 := permIn_refl _ _ _
                have S3 : SortedIn ltT mid b d1 := sorted_whole PH.out.1 PH.out.2.1 (by omega)
                have Z3 := Z2.out
                have P3 : Aside (PermIn mid b d1 d1) := P3
                have S3 : Aside (SortedIn ltT mid b d1) := S3
                have Z3 : Aside (SW encB w0 blk off d1 _) := Z3
                go_wp2
                go_end0
                have y1 := z1.out
                have y2 := z1.out
                have HF := halves (a := a) (mid := mid) (b := b) (d1 := d1) (by omega) (by omega) (by omega) (CR.out d1 X1.out.at_).2 P2.out S2.out P3.out S3.out
                exact ⟨rfl, d1, permIn_trans _ _ _ _ _ (permIn_mono _ _ _ _ _ _ hb.1 hb.2.2.2.2.2.1 (by omega) X1.out.perm) HF.1, HF.2, Z3.out⟩
          · skip
            by_cases qai : a < i
            · skip
              by_cases qeb : e < b
              · skip
                have gim : (i : Int) < (m : Int) := by omega
                have gme : ¬ (m : Int) < (e : Int) := by omega
                have gai : (a : Int) < (i : Int) := by omega
                have gimid : ¬ (i : Int) < (mid : Int) := by omega
                have gmide : (mid : Int) < (e : Int) := by omega
                have geb : (e : Int) < (b : Int) := by omega
                have X1 : Aside (RoR i m e d d) := RoR.self d (by omega) hb.2.2.1 hb.2.2.2.1
                have Z1 : Aside (SW encB w0 blk off d wr) := S1
                have PT := parts HL.out HR.out HA.out HB.out X1.out.at_
                have PT : Aside _ := PT
                have P2 : Aside (PermIn a mid d d) := permIn_refl _ _ _
                have S2 : Aside (SortedIn ltT a mid d) := sorted_whole PT.out.1.1 PT.out.1.2.1 (by omega)
                have Z2 := Z1
                have PH := PT.out.2 d (fun t ht => P2.out.2.1 t (.inr ht))
                have PH : Aside _ := PH
                have y2 := (Eq.refl d.size)
                have r2 := I.out mid e b (by omega) d _ (by omega) Z2.out (by omega) (by omega) (by omega) PH.out.2.2 PH.out.1 PH.out.2.1
                clear y2
                go_wp2_with fail
                refine r2.mono ?_
                rintro ee w3 ⟨rfl, d3, P3, S3, Z3⟩
                have P3 : Aside (PermIn mid b d d3) := P3
                have S3 : Aside (SortedIn ltT mid b d3) := S3
                have Z3 : Aside (SW encB w0 blk off d3 _) := Z3
                go_wp2
                go_end0
                have y1 := (Eq.refl d.size)
                have y2 := (Eq.refl d.size)
                have HF := halves (a := a) (mid := mid) (b := b) (d1 := d) (by omega) (by omega) (by omega) (CR.out d X1.out.at_).2 P2.out S2.out P3.out S3.out
                exact ⟨rfl, d3, permIn_trans _ _ _ _ _ (permIn_mono _ _ _ _ _ _ hb.1 hb.2.2.2.2.2.1 (by omega) X1.out.perm) HF.1, HF.2, Z3.out⟩
              · skip
                have gim : (i : Int) < (m : Int) := by omega
                have gme : ¬ (m : Int) < (e : Int) := by omega
                have gai : (a : Int) < (i : Int) := by omega
                have gimid : ¬ (i : Int) < (mid : Int) := by omega
                have gmide : (mid : Int) < (e : Int) := by omega
                have geb : ¬ (e : Int) < (b : Int) := by omega
                have X1 : Aside (RoR i m e d d) := RoR.self d (by omega) hb.2.2.1 hb.2.2.2.1
                have Z1 : Aside (SW encB w0 blk off d wr) := S1
                have PT := parts HL.out HR.out HA.out HB.out X1.out.at_
                have PT : Aside _ := PT
                have P2 : Aside (PermIn a mid d d) := permIn_refl _ _ _
                have S2 : Aside (SortedIn ltT a mid d) := sorted_whole PT.out.1.1 PT.out.1.2.1 (by omega)
                have Z2 := Z1
                have PH := PT.out.2 d (fun t ht => P2.out.2.1 t (.inr ht))
                have PH : Aside _ := PH
                have P3 : PermIn mid b d d := permIn_refl _ _ _
                have S3 : SortedIn ltT mid b d := sorted_whole PH.out.1 PH.out.2.1 (by omega)
                have Z3 := Z2.out
                have P3 : Aside (PermIn mid b d d) := P3
                have S3 : Aside (SortedIn ltT mid b d) := S3
                have Z3 : Aside (SW encB w0 blk off d _) := Z3
                go_wp2
                go_end0
                have y1 := (Eq.refl d.size)
                have y2 := (Eq.refl d.size)
                have HF := halves (a := a) (mid := mid) (b := b) (d1 := d) (by omega) (by omega) (by omega) (CR.out d X1.out.at_).2 P2.out S2.out P3.out S3.out
                exact ⟨rfl, d, permIn_trans _ _ _ _ _ (permIn_mono _ _ _ _ _ _ hb.1 hb.2.2.2.2.2.1 (by omega) X1.out.perm) HF.1, HF.2, Z3.out⟩
            · skip
              by_cases qeb : e < b
              · skip
                have gim : (i : Int) < (m : Int) := by omega
                have gme : ¬ (m : Int) < (e : Int) := by omega
                have gai : ¬ (a : Int) < (i : Int) := by omega
                have gmide : (mid : Int) < (e : Int) := by omega
                have geb : (e : Int) < (b : Int) := by omega
                have X1 : Aside (RoR i m e d d) := RoR.self d (by omega) hb.2.2.1 hb.2.2.2.1
                have Z1 : Aside (SW encB w0 blk off d wr) := S1
                have PT := parts HL.out HR.out HA.out HB.out X1.out.at_
                have PT : Aside _ := PT
                have P2 : Aside (PermIn a mid d d) := permIn_refl _ _ _
                have S2 : Aside (SortedIn ltT a mid d) := sorted_whole PT.out.1.1 PT.out.1.2.1 (by omega)
                have Z2 := Z1
                have PH := PT.out.2 d (fun t ht => P2.out.2.1 t (.inr ht))
                have PH : Aside _ := PH
                have y2 := (Eq.refl d.size)
                have r2 := I.out mid e b (by omega) d _ (by omega) Z2.out (by omega) (by omega) (by omega) PH.out.2.2 PH.out.1 PH.out.2.1
                clear y2
                go_wp2_with fail
                refine r2.mono ?_
                rintro ee w3 ⟨rfl, d3, P3, S3, Z3⟩
                have P3 : Aside (PermIn mid b d d3) := P3
                have S3 : Aside (SortedIn ltT mid b d3) := S3
                have Z3 : Aside (SW encB w0 blk off d3 _) := Z3
                go_wp2
                go_end0
                have y1 := (Eq.refl d.size)
                have y2 := (Eq.refl d.size)
                have HF := halves (a := a) (mid := mid) (b := b) (d1 := d) (by omega) (by omega) (by omega) (CR.out d X1.out.at_).2 P2.out S2.out P3.out S3.out
                exact ⟨rfl, d3, permIn_trans _ _ _ _ _ (permIn_mono _ _ _ _ _ _ hb.1 hb.2.2.2.2.2.1 (by omega) X1.out.perm) HF.1, HF.2, Z3.out⟩
              · skip
                have gim : (i : Int) < (m : Int) := by omega
                have gme : ¬ (m : Int) < (e : Int) := by omega
                have gai : ¬ (a : Int) < (i : Int) := by omega
                have gmide : (mid : Int) < (e : Int) := by omega
                have geb : ¬ (e : Int) < (b : Int) := by omega
                have X1 : Aside (RoR i m e d d) := RoR.self d (by omega) hb.2.2.1 hb.2.2.2.1
                have Z1 : Aside (SW encB w0 blk off d wr) := S1
                have PT := parts HL.out HR.out HA.out HB.out X1.out.at_
                have PT : Aside _ := PT
                have P2 : Aside (PermIn a mid d d) := permIn_refl _ _ _
                have S2 : Aside (SortedIn ltT a mid d) := sorted_whole PT.out.1.1 PT.out.1.2.1 (by omega)
                have Z2 := Z1
                have PH := PT.out.2 d (fun t ht => P2.out.2.1 t (.inr ht))
                have PH : Aside _ := PH
                have P3 : PermIn mid b d d := permIn_refl _ _ _
                have S3 : SortedIn ltT mid b d := sorted_whole PH.out.1 PH.out.2.1 (by omega)
                have Z3 := Z2.out
                have P3 : Aside (PermIn mid b d d) := P3
                have S3 : Aside (SortedIn ltT mid b d) := S3
                have Z3 : Aside (SW encB w0 blk off d _) := Z3
                go_wp2
                go_end0
                have y1 := (Eq.refl d.size)
                have y2 := (Eq.refl d.size)
                have HF := halves (a := a) (mid := mid) (b := b) (d1 := d) (by omega) (by omega) (by omega) (CR.out d X1.out.at_).2 P2.out S2.out P3.out S3.out
                exact ⟨rfl, d, permIn_trans _ _ _ _ _ (permIn_mono _ _ _ _ _ _ hb.1 hb.2.2.2.2.2.1 (by omega) X1.out.perm) HF.1, HF.2, Z3.out⟩
        · skip
          by_cases qimid : i < mid
          · skip
            by_cases qai : a < i
            · skip
              have gim : ¬ (i : Int) < (m : Int) := by omega
              have gai : (a : Int) < (i : Int) := by omega
              have gimid : (i : Int) < (mid : Int) := by omega
              have gmide : ¬ (mid : Int) < (e : Int) := by omega
              have X1 : Aside (RoR i m e d d) := RoR.self d (by omega) hb.2.2.1 hb.2.2.2.1
              have Z1 : Aside (SW encB w0 blk off d wr) := S1
              have PT := parts HL.out HR.out HA.out HB.out X1.out.at_
              have PT : Aside _ := PT
              have y1 := (Eq.refl d.size)
              have r1 := I.out a i mid (by omega) d _ (by omega) Z1.out (by omega) (by omega) (by omega) PT.out.1.2.2 PT.out.1.1 PT.out.1.2.1
              clear y1
              go_wp2_with fail
              refine r1.mono ?_
              rintro ee w2 ⟨rfl, d2, P2, S2, Z2⟩
              have P2 : Aside (PermIn a mid d d2) := P2
              have S2 : Aside (SortedIn ltT a mid d2) := S2
              have Z2 : Aside (SW encB w0 blk off d2 w2) := Z2
              have z2 : Aside (d2.size = d.size) := P2.out.1.trans (Eq.refl d.size)
              have PH := PT.out.2 d2 (fun t ht => P2.out.2.1 t (.inr ht))
              have PH : Aside _ := PH
              have P3 : PermIn mid b d2 d2 := permIn_refl _ _ _
              have S3 : SortedIn ltT mid b d2 := sorted_whole PH.out.1 PH.out.2.1 (by omega)
              have Z3 := Z2.out
              have P3 : Aside (PermIn mid b d2 d2) := P3
              have S3 : Aside (SortedIn ltT mid b d2) := S3
              have Z3 : Aside (SW encB w0 blk off d2 _) := Z3
              go_wp2
              go_end0
              have y1 := (Eq.refl d.size)
              have y2 := z2.out
              have HF := halves (a := a) (mid := mid) (b := b) (d1 := d) (by omega) (by omega) (by omega) (CR.out d X1.out.at_).2 P2.out S2.out P3.out S3.out
              exact ⟨rfl, d2, permIn_trans _ _ _ _ _ (permIn_mono _ _ _ _ _ _ hb.1 hb.2.2.2.2.2.1 (by omega) X1.out.perm) HF.1, HF.2, Z3.out⟩
            · skip
              have gim : ¬ (i : Int) < (m : Int) := by omega
              have gai : ¬ (a : Int) < (i : Int) := by omega
              have gmide : ¬ (mid : Int) < (e : Int) := by omega
              have X1 : Aside (RoR i m e d d) := RoR.self d (by omega) hb.2.2.1 hb.2.2.2.1
              have Z1 : Aside (SW encB w0 blk off d wr) := S1
              have PT := parts HL.out HR.out HA.out HB.out X1.out.at_
              have PT : Aside _ := PT
              have P2 : Aside (PermIn a mid d d) := permIn_refl _ _ _
              have S2 : Aside (SortedIn ltT a mid d) := sorted_whole PT.out.1.1 PT.out.1.2.1 (by omega)
              have Z2 := Z1
              have PH := PT.out.2 d (fun t ht => P2.out.2.1 t (.inr ht))
              have PH : Aside _ := PH
              have P3 : PermIn mid b d d := permIn_refl _ _ _
              have S3 : SortedIn ltT mid b d := sorted_whole PH.out.1 PH.out.2.1 (by omega)
              have Z3 := Z2.out
              have P3 : Aside (PermIn mid b d d) := P3
              have S3 : Aside (SortedIn ltT mid b d) := S3
              have Z3 : Aside (SW encB w0 blk off d _) := Z3
              go_wp2
              go_end0
              have y1 := (Eq.refl d.size)
              have y2 := (Eq.refl d.size)
              have HF := halves (a := a) (mid := mid) (b := b) (d1 := d) (by omega) (by omega) (by omega) (CR.out d X1.out.at_).2 P2.out S2.out P3.out S3.out
              exact ⟨rfl, d, permIn_trans _ _ _ _ _ (permIn_mono _ _ _ _ _ _ hb.1 hb.2.2.2.2.2.1 (by omega) X1.out.perm) HF.1, HF.2, Z3.out⟩
          · skip
            by_cases qai : a < i
            · skip
              have gim : ¬ (i : Int) < (m : Int) := by omega
              have gai : (a : Int) < (i : Int) := by omega
              have gimid : ¬ (i : Int) < (mid : Int) := by omega
              have gmide : ¬ (mid : Int) < (e : Int) := by omega
              have X1 : Aside (RoR i m e d d) := RoR.self d (by omega) hb.2.2.1 hb.2.2.2.1
              have Z1 : Aside (SW encB w0 blk off d wr) := S1
              have PT := parts HL.out HR.out HA.out HB.out X1.out.at_
              have PT : Aside _ := PT
              have P2 : Aside (PermIn a mid d d) := permIn_refl _ _ _
              have S2 : Aside (SortedIn ltT a mid d) := sorted_whole PT.out.1.1 PT.out.1.2.1 (by omega)
              have Z2 := Z1
              have PH := PT.out.2 d (fun t ht => P2.out.2.1 t (.inr ht))
              have PH : Aside _ := PH
              have P3 : PermIn mid b d d := permIn_refl _ _ _
              have S3 : SortedIn ltT mid b d := sorted_whole PH.out.1 PH.out.2.1 (by omega)
              have Z3 := Z2.out
              have P3 : Aside (PermIn mid b d d) := P3
              have S3 : Aside (SortedIn ltT mid b d) := S3
              have Z3 : Aside (SW encB w0 blk off d _) := Z3
              go_wp2
              go_end0
              have y1 := (Eq.refl d.size)
              have y2 := (Eq.refl d.size)
              have HF := halves (a := a) (mid := mid) (b := b) (d1 := d) (by omega) (by omega) (by omega) (CR.out d X1.out.at_).2 P2.out S2.out P3.out S3.out
              exact ⟨rfl, d, permIn_trans _ _ _ _ _ (permIn_mono _ _ _ _ _ _ hb.1 hb.2.2.2.2.2.1 (by omega) X1.out.perm) HF.1, HF.2, Z3.out⟩
            · skip
              have gim : ¬ (i : Int) < (m : Int) := by omega
              have gai : ¬ (a : Int) < (i : Int) := by omega
              have gmide : ¬ (mid : Int) < (e : Int) := by omega
              have X1 : Aside (RoR i m e d d) := RoR.self d (by omega) hb.2.2.1 hb.2.2.2.1
              have Z1 : Aside (SW encB w0 blk off d wr) := S1
              have PT := parts HL.out HR.out HA.out HB.out X1.out.at_
              have PT : Aside _ := PT
              have P2 : Aside (PermIn a mid d d) := permIn_refl _ _ _
              have S2 : Aside (SortedIn ltT a mid d) := sorted_whole PT.out.1.1 PT.out.1.2.1 (by omega)
              have Z2 := Z1
              have PH := PT.out.2 d (fun t ht => P2.out.2.1 t (.inr ht))
              have PH : Aside _ := PH
              have P3 : PermIn mid b d d := permIn_refl _ _ _
              have S3 : SortedIn ltT mid b d := sorted_whole PH.out.1 PH.out.2.1 (by omega)
              have Z3 := Z2.out
              have P3 : Aside (PermIn mid b d d) := P3
              have S3 : Aside (SortedIn ltT mid b d) := S3
              have Z3 : Aside (SW encB w0 blk off d _) := Z3
              go_wp2
              go_end0
              have y1 := (Eq.refl d.size)
              have y2 := (Eq.refl d.size)
              have HF := halves (a := a) (mid := mid) (b := b) (d1 := d) (by omega) (by omega) (by omega) (CR.out d X1.out.at_).2 P2.out S2.out P3.out S3.out
              exact ⟨rfl, d, permIn_trans _ _ _ _ _ (permIn_mono _ _ _ _ _ _ hb.1 hb.2.2.2.2.2.1 (by omega) X1.out.perm) HF.1, HF.2, Z3.out⟩

theorem symMerge_calls (cap : Nat) (hC : CmpLays1 Tryz.prog 18 #[] encB cfB blk off d0.size w0) (R : Row1 encB w0 blk off d0) (hsz : d0.size < 2305843009213693952) : ∀ (N a m b : Nat), b - a ≤ N → SymOk d0 w0 blk off cap a m b := by
  intro N
  induction N with
  | zero => intro a m b hN d w hs S h1 h2; omega
  | succ N ih =>
    intro a m b hN d w hs S h1 h2 h3 hA hL hR
    by_cases q1 : m = a + 1
    · subst q1
      exact symMerge_left a b cap hC R hs S h2 h3 (by omega) hA hR
    · by_cases q2 : b = m + 1
      · subst q2
        exact symMerge_right a m cap hC R hs S (by omega) h3 (by omega) hA hL
      · exact symMerge_main a m b cap hC R hs S (by omega) (by omega) h3 (by omega) hA hL hR (fun a' m' b' h => ih a' m' b' (by omega))
end Go.Proofs.YtfliapankgdeeaaGreat.A
