/- slices.stableCmpFunc and slices.SortStableFunc at []int, walked. -/
import Derived.Test.YtfliapankgdeeaaGreatEvW
namespace Go.Proofs.YtfliapankgdeeaaGreat.A
open Go.RowKit Go.Shelf Go.Lib Go.Sort
set_option linter.unusedVariables false
set_option linter.unusedSimpArgs false
variable {w0 w : World} {blk off : Nat} {d0 d : Array Bk}

/-- Blocks (of g) below a are in order, blocks rise; what is behind a is in the finer blocks' (f) order. -/
structure Stg (f g : Nat → Nat) (a n : Nat) (d : Array Bk) : Prop where
  size : d.size = n
  done : ∀ i j, i < j → j < a → g i = g j → ltT d[j]! d[i]! = false
  riseG : ∀ i j, i < j → j < n → g i < g j → d[i]!.val < d[j]!.val
  rest : ∀ i j, a ≤ i → i < j → j < n → f i = f j → ltT d[j]! d[i]! = false
  riseF : ∀ i j, a ≤ i → i < j → j < n → f i < f j → d[i]!.val < d[j]!.val

theorem Stg.step {f g : Nat → Nat} {a b c n : Nat} {d d' : Array Bk} (h : Stg f g a n d) (hab : a ≤ b) (hb : b ≤ n) (P : PermIn a b d d') (S : SortedIn ltT a b d') (hg : ∀ i, a ≤ i → i < b → g i = c) (hl : ∀ i, i < a → g i ≠ c) : Stg f g b n d' := by
  have hs := h.size
  obtain ⟨h1, h2⟩ := step_blk (g := g) (by omega) P S hg hl h.done (fun i j he hj hij => h.riseG i j hij (by omega) he)
  refine ⟨by rw [P.1]; exact hs, h1, fun i j hij hj he => h2 i j he (by rw [P.1]; omega) hij, fun i j hi hij hj he => ?_, fun i j hi hij hj he => ?_⟩
  · rw [P.2.1 j (.inr (by omega)), P.2.1 i (.inr hi)]; exact h.rest i j (by omega) hij hj he
  · rw [P.2.1 j (.inr (by omega)), P.2.1 i (.inr hi)]; exact h.riseF i j (by omega) hij hj he

theorem Stg.next {f g k : Nat → Nat} {n : Nat} {d : Array Bk} (h : Stg f g n n d) (hk : ∀ i j, k i < k j → g i < g j) : Stg g k 0 n d :=
  ⟨h.size, fun i j _ hj => absurd hj (by omega), fun i j hij hj he => h.riseG i j hij hj (hk i j he), fun i j _ hij hj he => h.done i j hij hj he, fun i j _ hij hj he => h.riseG i j hij hj he⟩

/-- The last blocks want no merging. -/
theorem Stg.idle {f g : Nat → Nat} {a n c : Nat} {d : Array Bk} (h : Stg f g a n d) (han : a ≤ n) (hf : ∀ i j, a ≤ i → i < j → j < n → f i = f j) (hg : ∀ i, a ≤ i → i < n → g i = c) (hl : ∀ i, i < a → g i ≠ c) : Stg f g n n d :=
  h.step han (Nat.le_refl _) (permIn_refl _ _ _) (fun i j hi hij hj => h.rest i j hi hij hj (hf i j hi hij hj)) hg hl

theorem Stg.fin {f g : Nat → Nat} {n : Nat} {d : Array Bk} (h : Stg f g n n d) (hg : ∀ i j, i < j → j < n → g i = g j) : SortedIn ltT 0 n d := fun i j _ hij hj => h.done i j hij hj (hg i j hij hj)
theorem Stg.agr {f g : Nat → Nat} {a m b n : Nat} {d : Array Bk} (h : Stg f g a n d) (hb : b ≤ n) (hf : ∀ i j, a ≤ i → i < m → m ≤ j → j < b → f i < f j) : Agr a m b d := fun i j hi him hm hj => agr_iff (h.riseF i j hi (by omega) (by omega) (hf i j hi him hm hj))
theorem Stg.sorted {f g : Nat → Nat} {a m b n : Nat} {d : Array Bk} (h : Stg f g a n d) (ha : a ≤ m) (hb : b ≤ n) (hf : ∀ i j, m ≤ i → i < j → j < b → f i = f j) : SortedIn ltT m b d := fun i j hi hij hj => h.rest i j (by omega) hij (by omega) (hf i j hi hij hj)
theorem perm_all {d dk dk' : Array Bk} {n x y : Nat} (h : PermIn 0 n d dk) (k : PermIn x y dk dk') (hy : y ≤ n) (hs : dk.size = n) : PermIn 0 n d dk' := perm_part h k (Nat.zero_le _) hy (by omega)

theorem insSort_calls (n cap a b : Nat) (hd0 : d0.size = n) (hd : d.size = n) (h127 : n ≤ 127) (R : Row1 encB w0 blk off d0) (S : SW encB w0 blk off d w) (hab : a ≤ b) (hb : b ≤ n) (h : ∀ i j, a ≤ i → i < j → j < b → d[i]!.val < d[j]!.val) :
    Calls Tryz.prog 60 #[.slice (some ⟨blk, off, none⟩) n cap, .int .i64 a, .int .i64 b, .func (.func 18) #[] #[]] w fun e w' => e = .returned (.tuple #[]) ∧ ∃ d', PermIn a b d d' ∧ SortedIn ltT a b d' ∧ SW encB w0 blk off d' w' := by
  have hc := Tryz.insertionSortCmpFunc_s encB cfB 18 #[] blk off cap a b d0 d w0 w (enters_of Tryz.func18 (by kernel_rfl) rfl) (cmpLays _ _ _ _) R (by omega) S hab (by omega) (by omega)
  rw [hd] at hc
  with_reducible refine hc.mono ?_
  rintro e w' ⟨rfl, S2⟩
  obtain ⟨h1, h2⟩ := insSort_ok hab (by omega) h
  exact ⟨rfl, _, h1, h2, S2⟩

theorem sym_calls (n cap a m b : Nat) (hd0 : d0.size = n) (hd : d.size = n) (h127 : n ≤ 127) (R : Row1 encB w0 blk off d0) (S : SW encB w0 blk off d w) (h1 : a < m) (h2 : m < b) (h3 : b ≤ n) (hA : Agr a m b d) (hL : SortedIn ltT a m d) (hR : SortedIn ltT m b d) :
    Calls Tryz.prog 61 #[.slice (some ⟨blk, off, none⟩) n cap, .int .i64 a, .int .i64 m, .int .i64 b, .func (.func 18) #[] #[]] w fun e w' => e = .returned (.tuple #[]) ∧ ∃ d', PermIn a b d d' ∧ SortedIn ltT a b d' ∧ SW encB w0 blk off d' w' := by
  have hc := symMerge_calls cap (cmpLays blk off d0.size w0) R (by omega) (b - a) a m b (Nat.le_refl _) d w (by omega) S h1 h2 (by omega) hA hL hR
  rw [hd] at hc
  exact hc

set_option maxHeartbeats 2000000 in
set_option maxRecDepth 100000 in
/-- Up to 127 rising buckets: put in order, deepest first. -/
theorem stable_calls (n cap : Nat) (hn : d.size = n) (h127 : n ≤ 127) (R : Row1 encB w blk off d) (hd : ∀ i j, i < j → j < n → d[i]!.val < d[j]!.val) :
    Calls Tryz.prog 45 #[.slice (some ⟨blk, off, none⟩) n cap, .int .i64 n, .func (.func 18) #[] #[]] w fun e w' => e = .returned (.tuple #[]) ∧ ∃ d', PermIn 0 n d d' ∧ SortedIn ltT 0 n d' ∧ SW encB w blk off d' w' := by
  have S0 : Aside (SW encB w blk off d w) := SW.start R.hH
  have G0 : Aside (Stg id (· / 20) 0 n d) := ⟨hn, fun i j _ hj => absurd hj (by omega), fun i j hij hj _ => hd i j hij hj, fun i j _ hij _ he => absurd he (by show ¬ i = j; omega), fun i j _ hij hj _ => hd i j hij hj⟩
  clear hd
  go_enter Tryz.func45, Tryz.ntmps45
  go_wp2
  go_loopg [7, 8] n (fun g vi vj wr => ∃ (a b : Nat) (dk : Array Bk), vi = .int .i64 a ∧ vj = .int .i64 b ∧ b = a + 20 ∧ a % 20 = 0 ∧ a ≤ n ∧ n - a ≤ g ∧ Aside (SW encB w blk off dk wr) ∧ Aside (PermIn 0 n d dk) ∧ Aside (Stg id (· / 20) a n dk))
  case atStart => exact ⟨0, 20, d, by go_num, by go_num, rfl, rfl, Nat.zero_le _, by omega, S0, permIn_refl _ _ _, G0⟩
  case round =>
    clear S0 G0
    obtain ⟨a, b, dk, rfl, rfl, hba, ham, han, hg, S1, PM, G1⟩ := hrel
    by_cases hlt : b ≤ n
    · have hltz : (b : Int) ≤ (n : Int) := by omega
      have hc := insSort_calls n cap a b hn G1.out.size h127 R S1.out (by omega) hlt (fun i j hi hij hj => G1.out.riseF i j hi hij (by omega) hij)
      have HB : Aside _ := hba
      clear hba
      go_wp2_with fail
      with_reducible refine hc.mono ?_
      rintro e w1 ⟨rfl, d1, P1, Z1, S2⟩
      have hba := HB.out
      have S2 : Aside (SW encB w blk off d1 w1) := S2
      have PM2 : Aside (PermIn 0 n d d1) := perm_all PM.out P1 hlt G1.out.size
      have G2 : Aside (Stg id (· / 20) b n d1) := G1.out.step (c := a / 20) (by omega) hlt P1 Z1 (fun i h1 h2 => by show i / 20 = a / 20; omega) (fun i h1 => by show i / 20 ≠ a / 20; omega)
      clear P1 Z1 hba
      go_wp2
      go_roundg (n - b)
      case measure => have hba := HB.out; omega
      case rel =>
        have hba := HB.out
        exact ⟨b, b + 20, d1, rfl, by go_num, rfl, by omega, hlt, Nat.le_refl _, S2, PM2, G2⟩
    · have hltz : ¬ (b : Int) ≤ (n : Int) := by omega
      have hc := insSort_calls n cap a n hn G1.out.size h127 R S1.out han (Nat.le_refl _) (fun i j hi hij hj => G1.out.riseF i j hi hij (by omega) hij)
      have HB : Aside _ := hba
      clear hba
      go_wp2_with fail
      with_reducible refine hc.mono ?_
      rintro e w1 ⟨rfl, d1, P1, Z1, S2⟩
      have hba := HB.out
      have S2 : Aside (SW encB w blk off d1 w1) := S2
      have PM2 : Aside (PermIn 0 n d d1) := perm_all PM.out P1 (Nat.le_refl _) G1.out.size
      have G2 : Aside (Stg id (· / 20) n n d1) := G1.out.step (c := a / 20) han (Nat.le_refl _) P1 Z1 (fun i h1 h2 => by show i / 20 = a / 20; omega) (fun i h1 => by show i / 20 ≠ a / 20; omega)
      clear P1 Z1 hba hc S1 PM G1 hltz
      go_wp2
      go_loopg [6] 160 (fun g vs wr => ∃ (s : Nat) (f : Nat → Nat) (dk : Array Bk), vs = .int .i64 s ∧ (s = 20 ∨ s = 40 ∨ s = 80 ∨ s = 160) ∧ 160 - s ≤ g ∧ Aside (SW encB w blk off dk wr) ∧ Aside (PermIn 0 n d dk) ∧ Aside (Stg f (· / s) n n dk))
      case atStart => exact ⟨20, id, d1, by go_num, .inl rfl, by omega, S2, PM2, G2⟩
      case round =>
        clear S2 PM2 G2
        obtain ⟨s, f, dk, rfl, hs, hg2, S1, PM, G1⟩ := hrel
        by_cases hsn : s < n
        · have hsz : (s : Int) < (n : Int) := by omega
          rcases hs with rfl | rfl | rfl | rfl
          · -- blocks of 20
            have hsz2 : (20 : Int) < (n : Int) := by omega
            have G1 : Aside (Stg (· / 20) (· / 40) 0 n dk) := G1.out.next (fun i j h => by show i / 20 < j / 20; have h : i / 40 < j / 40 := h; omega)
            go_wp2
            go_loopg [7, 8] n (fun g vi vj wr2 => ∃ (a b : Nat) (dl : Array Bk), vi = .int .i64 a ∧ vj = .int .i64 b ∧ b = a + 40 ∧ a % 40 = 0 ∧ a ≤ n ∧ n - a ≤ g ∧ Aside (SW encB w blk off dl wr2) ∧ Aside (PermIn 0 n d dl) ∧ Aside (Stg (· / 20) (· / 40) a n dl))
            case atStart => exact ⟨0, 40, dk, by go_num, by go_num, rfl, rfl, Nat.zero_le _, by omega, S1, PM, G1⟩
            case round =>
              clear S1 PM G1
              obtain ⟨a, b, dl, rfl, rfl, hba, ham, han, hg, S1, PM, G1⟩ := hrel
              obtain ⟨m, hm⟩ : ∃ m, m = a + 20 := ⟨_, rfl⟩
              have em : (a : Int) + 20 = (m : Int) := by omega
              have ew : IntKind.i64.wrap (m : Int) = (m : Int) := by rw [IntKind.wrap_i64]; omega
              by_cases hlt : b ≤ n
              · have hltz : (b : Int) ≤ (n : Int) := by omega
                have hc := sym_calls n cap a m b hn G1.out.size h127 R S1.out (by omega) (by omega) hlt (G1.out.agr hlt (fun i j h1 h2 h3 h4 => by show i / 20 < j / 20; omega)) (G1.out.sorted (Nat.le_refl _) (by omega) (fun i j h1 h2 h3 => by show i / 20 = j / 20; omega)) (G1.out.sorted (by omega) hlt (fun i j h1 h2 h3 => by show i / 20 = j / 20; omega))
                have HB : Aside _ := hba
                have HM : Aside _ := hm
                clear hba hm
                go_wp2_with fail
                with_reducible refine hc.mono ?_
                rintro e w1 ⟨rfl, d1, P1, Z1, S2⟩
                have hba := HB.out
                have S2 : Aside (SW encB w blk off d1 w1) := S2
                have PM2 : Aside (PermIn 0 n d d1) := perm_all PM.out P1 hlt G1.out.size
                have G2 : Aside (Stg (· / 20) (· / 40) b n d1) := G1.out.step (c := a / 40) (by omega) hlt P1 Z1 (fun i h1 h2 => by show i / 40 = a / 40; omega) (fun i h1 => by show i / 40 ≠ a / 40; omega)
                clear P1 Z1 hba
                go_wp2
                go_roundg (n - b)
                case measure => have hba := HB.out; omega
                case rel =>
                  have hba := HB.out
                  exact ⟨b, b + 40, d1, rfl, by go_num, rfl, by omega, hlt, Nat.le_refl _, S2, PM2, G2⟩
              · have hltz : ¬ (b : Int) ≤ (n : Int) := by omega
                by_cases hmn : m < n
                · have hmz : (m : Int) < (n : Int) := by omega
                  have hc := sym_calls n cap a m n hn G1.out.size h127 R S1.out (by omega) hmn (Nat.le_refl _) (G1.out.agr (Nat.le_refl _) (fun i j h1 h2 h3 h4 => by show i / 20 < j / 20; omega)) (G1.out.sorted (Nat.le_refl _) (by omega) (fun i j h1 h2 h3 => by show i / 20 = j / 20; omega)) (G1.out.sorted (by omega) (Nat.le_refl _) (fun i j h1 h2 h3 => by show i / 20 = j / 20; omega))
                  have HB : Aside _ := hba
                  have HM : Aside _ := hm
                  clear hba hm
                  go_wp2_with fail
                  with_reducible refine hc.mono ?_
                  rintro e w1 ⟨rfl, d1, P1, Z1, S2⟩
                  have hba := HB.out
                  have S2 : Aside (SW encB w blk off d1 w1) := S2
                  have PM2 : Aside (PermIn 0 n d d1) := perm_all PM.out P1 (Nat.le_refl _) G1.out.size
                  have G2 : Aside (Stg (· / 20) (· / 40) n n d1) := G1.out.step (c := a / 40) han (Nat.le_refl _) P1 Z1 (fun i h1 h2 => by show i / 40 = a / 40; omega) (fun i h1 => by show i / 40 ≠ a / 40; omega)
                  clear P1 Z1 hba
                  go_wp2
                  go_roundg (160 - 40)
                  case measure => omega
                  case rel => exact ⟨40, _, d1, by go_num, by omega, Nat.le_refl _, S2, PM2, G2⟩
                · have hmz : ¬ (m : Int) < (n : Int) := by omega
                  have G2 : Aside (Stg (· / 20) (· / 40) n n dl) := G1.out.idle (c := a / 40) han (fun i j h1 h2 h3 => by show i / 20 = j / 20; omega) (fun i h1 h2 => by show i / 40 = a / 40; omega) (fun i h1 => by show i / 40 ≠ a / 40; omega)
                  clear hba hm
                  go_wp2
                  go_roundg (160 - 40)
                  case measure => omega
                  case rel => exact ⟨40, _, dl, by go_num, by omega, Nat.le_refl _, S1, PM, G2⟩
          · -- blocks of 40
            have hsz2 : (40 : Int) < (n : Int) := by omega
            have G1 : Aside (Stg (· / 40) (· / 80) 0 n dk) := G1.out.next (fun i j h => by show i / 40 < j / 40; have h : i / 80 < j / 80 := h; omega)
            go_wp2
            go_loopg [7, 8] n (fun g vi vj wr2 => ∃ (a b : Nat) (dl : Array Bk), vi = .int .i64 a ∧ vj = .int .i64 b ∧ b = a + 80 ∧ a % 80 = 0 ∧ a ≤ n ∧ n - a ≤ g ∧ Aside (SW encB w blk off dl wr2) ∧ Aside (PermIn 0 n d dl) ∧ Aside (Stg (· / 40) (· / 80) a n dl))
            case atStart => exact ⟨0, 80, dk, by go_num, by go_num, rfl, rfl, Nat.zero_le _, by omega, S1, PM, G1⟩
            case round =>
              clear S1 PM G1
              obtain ⟨a, b, dl, rfl, rfl, hba, ham, han, hg, S1, PM, G1⟩ := hrel
              obtain ⟨m, hm⟩ : ∃ m, m = a + 40 := ⟨_, rfl⟩
              have em : (a : Int) + 40 = (m : Int) := by omega
              have ew : IntKind.i64.wrap (m : Int) = (m : Int) := by rw [IntKind.wrap_i64]; omega
              by_cases hlt : b ≤ n
              · have hltz : (b : Int) ≤ (n : Int) := by omega
                have hc := sym_calls n cap a m b hn G1.out.size h127 R S1.out (by omega) (by omega) hlt (G1.out.agr hlt (fun i j h1 h2 h3 h4 => by show i / 40 < j / 40; omega)) (G1.out.sorted (Nat.le_refl _) (by omega) (fun i j h1 h2 h3 => by show i / 40 = j / 40; omega)) (G1.out.sorted (by omega) hlt (fun i j h1 h2 h3 => by show i / 40 = j / 40; omega))
                have HB : Aside _ := hba
                have HM : Aside _ := hm
                clear hba hm
                go_wp2_with fail
                with_reducible refine hc.mono ?_
                rintro e w1 ⟨rfl, d1, P1, Z1, S2⟩
                have hba := HB.out
                have S2 : Aside (SW encB w blk off d1 w1) := S2
                have PM2 : Aside (PermIn 0 n d d1) := perm_all PM.out P1 hlt G1.out.size
                have G2 : Aside (Stg (· / 40) (· / 80) b n d1) := G1.out.step (c := a / 80) (by omega) hlt P1 Z1 (fun i h1 h2 => by show i / 80 = a / 80; omega) (fun i h1 => by show i / 80 ≠ a / 80; omega)
                clear P1 Z1 hba
                go_wp2
                go_roundg (n - b)
                case measure => have hba := HB.out; omega
                case rel =>
                  have hba := HB.out
                  exact ⟨b, b + 80, d1, rfl, by go_num, rfl, by omega, hlt, Nat.le_refl _, S2, PM2, G2⟩
              · have hltz : ¬ (b : Int) ≤ (n : Int) := by omega
                by_cases hmn : m < n
                · have hmz : (m : Int) < (n : Int) := by omega
                  have hc := sym_calls n cap a m n hn G1.out.size h127 R S1.out (by omega) hmn (Nat.le_refl _) (G1.out.agr (Nat.le_refl _) (fun i j h1 h2 h3 h4 => by show i / 40 < j / 40; omega)) (G1.out.sorted (Nat.le_refl _) (by omega) (fun i j h1 h2 h3 => by show i / 40 = j / 40; omega)) (G1.out.sorted (by omega) (Nat.le_refl _) (fun i j h1 h2 h3 => by show i / 40 = j / 40; omega))
                  have HB : Aside _ := hba
                  have HM : Aside _ := hm
                  clear hba hm
                  go_wp2_with fail
                  with_reducible refine hc.mono ?_
                  rintro e w1 ⟨rfl, d1, P1, Z1, S2⟩
                  have hba := HB.out
                  have S2 : Aside (SW encB w blk off d1 w1) := S2
                  have PM2 : Aside (PermIn 0 n d d1) := perm_all PM.out P1 (Nat.le_refl _) G1.out.size
                  have G2 : Aside (Stg (· / 40) (· / 80) n n d1) := G1.out.step (c := a / 80) han (Nat.le_refl _) P1 Z1 (fun i h1 h2 => by show i / 80 = a / 80; omega) (fun i h1 => by show i / 80 ≠ a / 80; omega)
                  clear P1 Z1 hba
                  go_wp2
                  go_roundg (160 - 80)
                  case measure => omega
                  case rel => exact ⟨80, _, d1, by go_num, by omega, Nat.le_refl _, S2, PM2, G2⟩
                · have hmz : ¬ (m : Int) < (n : Int) := by omega
                  have G2 : Aside (Stg (· / 40) (· / 80) n n dl) := G1.out.idle (c := a / 80) han (fun i j h1 h2 h3 => by show i / 40 = j / 40; omega) (fun i h1 h2 => by show i / 80 = a / 80; omega) (fun i h1 => by show i / 80 ≠ a / 80; omega)
                  clear hba hm
                  go_wp2
                  go_roundg (160 - 80)
                  case measure => omega
                  case rel => exact ⟨80, _, dl, by go_num, by omega, Nat.le_refl _, S1, PM, G2⟩
          · -- blocks of 80
            have hsz2 : (80 : Int) < (n : Int) := by omega
            have G1 : Aside (Stg (· / 80) (· / 160) 0 n dk) := G1.out.next (fun i j h => by show i / 80 < j / 80; have h : i / 160 < j / 160 := h; omega)
            go_wp2
            go_loopg [7, 8] n (fun g vi vj wr2 => ∃ (a b : Nat) (dl : Array Bk), vi = .int .i64 a ∧ vj = .int .i64 b ∧ b = a + 160 ∧ a % 160 = 0 ∧ a ≤ n ∧ n - a ≤ g ∧ Aside (SW encB w blk off dl wr2) ∧ Aside (PermIn 0 n d dl) ∧ Aside (Stg (· / 80) (· / 160) a n dl))
            case atStart => exact ⟨0, 160, dk, by go_num, by go_num, rfl, rfl, Nat.zero_le _, by omega, S1, PM, G1⟩
            case round =>
              clear S1 PM G1
              obtain ⟨a, b, dl, rfl, rfl, hba, ham, han, hg, S1, PM, G1⟩ := hrel
              obtain ⟨m, hm⟩ : ∃ m, m = a + 80 := ⟨_, rfl⟩
              have em : (a : Int) + 80 = (m : Int) := by omega
              have ew : IntKind.i64.wrap (m : Int) = (m : Int) := by rw [IntKind.wrap_i64]; omega
              by_cases hlt : b ≤ n
              · have hltz : (b : Int) ≤ (n : Int) := by omega
                have hc := sym_calls n cap a m b hn G1.out.size h127 R S1.out (by omega) (by omega) hlt (G1.out.agr hlt (fun i j h1 h2 h3 h4 => by show i / 80 < j / 80; omega)) (G1.out.sorted (Nat.le_refl _) (by omega) (fun i j h1 h2 h3 => by show i / 80 = j / 80; omega)) (G1.out.sorted (by omega) hlt (fun i j h1 h2 h3 => by show i / 80 = j / 80; omega))
                have HB : Aside _ := hba
                have HM : Aside _ := hm
                clear hba hm
                go_wp2_with fail
                with_reducible refine hc.mono ?_
                rintro e w1 ⟨rfl, d1, P1, Z1, S2⟩
                have hba := HB.out
                have S2 : Aside (SW encB w blk off d1 w1) := S2
                have PM2 : Aside (PermIn 0 n d d1) := perm_all PM.out P1 hlt G1.out.size
                have G2 : Aside (Stg (· / 80) (· / 160) b n d1) := G1.out.step (c := a / 160) (by omega) hlt P1 Z1 (fun i h1 h2 => by show i / 160 = a / 160; omega) (fun i h1 => by show i / 160 ≠ a / 160; omega)
                clear P1 Z1 hba
                go_wp2
                go_roundg (n - b)
                case measure => have hba := HB.out; omega
                case rel =>
                  have hba := HB.out
                  exact ⟨b, b + 160, d1, rfl, by go_num, rfl, by omega, hlt, Nat.le_refl _, S2, PM2, G2⟩
              · have hltz : ¬ (b : Int) ≤ (n : Int) := by omega
                by_cases hmn : m < n
                · have hmz : (m : Int) < (n : Int) := by omega
                  have hc := sym_calls n cap a m n hn G1.out.size h127 R S1.out (by omega) hmn (Nat.le_refl _) (G1.out.agr (Nat.le_refl _) (fun i j h1 h2 h3 h4 => by show i / 80 < j / 80; omega)) (G1.out.sorted (Nat.le_refl _) (by omega) (fun i j h1 h2 h3 => by show i / 80 = j / 80; omega)) (G1.out.sorted (by omega) (Nat.le_refl _) (fun i j h1 h2 h3 => by show i / 80 = j / 80; omega))
                  have HB : Aside _ := hba
                  have HM : Aside _ := hm
                  clear hba hm
                  go_wp2_with fail
                  with_reducible refine hc.mono ?_
                  rintro e w1 ⟨rfl, d1, P1, Z1, S2⟩
                  have hba := HB.out
                  have S2 : Aside (SW encB w blk off d1 w1) := S2
                  have PM2 : Aside (PermIn 0 n d d1) := perm_all PM.out P1 (Nat.le_refl _) G1.out.size
                  have G2 : Aside (Stg (· / 80) (· / 160) n n d1) := G1.out.step (c := a / 160) han (Nat.le_refl _) P1 Z1 (fun i h1 h2 => by show i / 160 = a / 160; omega) (fun i h1 => by show i / 160 ≠ a / 160; omega)
                  clear P1 Z1 hba
                  go_wp2
                  go_roundg (160 - 160)
                  case measure => omega
                  case rel => exact ⟨160, _, d1, by go_num, by omega, Nat.le_refl _, S2, PM2, G2⟩
                · have hmz : ¬ (m : Int) < (n : Int) := by omega
                  have G2 : Aside (Stg (· / 80) (· / 160) n n dl) := G1.out.idle (c := a / 160) han (fun i j h1 h2 h3 => by show i / 80 = j / 80; omega) (fun i h1 h2 => by show i / 160 = a / 160; omega) (fun i h1 => by show i / 160 ≠ a / 160; omega)
                  clear hba hm
                  go_wp2
                  go_roundg (160 - 160)
                  case measure => omega
                  case rel => exact ⟨160, _, dl, by go_num, by omega, Nat.le_refl _, S1, PM, G2⟩
          · omega
        · have hsz : ¬ (s : Int) < (n : Int) := by omega
          go_wp2
          go_end0
          exact ⟨rfl, dk, PM.out, G1.out.fin (fun i j h1 h2 => by show i / s = j / s; rw [Nat.div_eq_of_lt (by omega), Nat.div_eq_of_lt (by omega)]), S1.out⟩
end Go.Proofs.YtfliapankgdeeaaGreat.A
