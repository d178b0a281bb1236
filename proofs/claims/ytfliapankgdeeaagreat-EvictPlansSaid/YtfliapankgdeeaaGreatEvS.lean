/- slices.SortStableFunc's family at []int: swapRangeCmpFunc, rotateCmpFunc. A row of buckets is an Array of Fin 127. -/
import Derived.Shelf.SlSortCmp.Insertion1
import Derived.Test.YtfliapankgdeeaaGreatProg
namespace Go.Proofs.YtfliapankgdeeaaGreat.A
open Go.RowKit Go.Shelf Go.Lib Go.Sort
set_option linter.unusedVariables false
set_option linter.unusedSimpArgs false

abbrev Bk := Fin 127
instance : Inhabited Bk := ⟨⟨0, by omega⟩⟩
def encB (x : Bk) : Value := .int .i64 (x.val : Int)
theorem encB_one : OneCell encB := fun _ => rfl

variable {w0 w : World} {blk off : Nat} {d0 d : Array Bk}

/-- [a, a + n) and [b, b + n) have changed places. -/
structure SwR (a b n : Nat) (d d' : Array Bk) : Prop where
  perm : PermIn a (b + n) d d'
  size : d'.size = d.size
  at_ : ∀ t, d'[t]! = if a ≤ t ∧ t < a + n then d[t + (b - a)]! else if b ≤ t ∧ t < b + n then d[t - (b - a)]! else d[t]!

theorem SwR.start (a b : Nat) (d : Array Bk) (n : Nat) : PermIn a (b + n) d d ∧ d.size = d.size ∧ ∀ t, d[t]! = if a ≤ t ∧ t < a + 0 then d[t + (b - a)]! else if b ≤ t ∧ t < b + 0 then d[t - (b - a)]! else d[t]! := by
  refine ⟨permIn_refl _ _ _, rfl, fun t => ?_⟩
  rw [if_neg (by omega), if_neg (by omega)]

theorem swp_at (d : Array Bk) {i j : Nat} (hi : i < d.size) (hj : j < d.size) (t : Nat) : (swp d i j)[t]! = if t = j then d[i]! else if t = i then d[j]! else d[t]! := by
  by_cases h1 : t = j
  · subst h1; rw [if_pos rfl, swp_right _ _ _ hj]
  · rw [if_neg h1]
    by_cases h2 : t = i
    · subst h2; rw [if_pos rfl, swp_left _ _ _ hi h1]
    · rw [if_neg h2, swp_other _ _ _ _ h2 h1]

set_option maxHeartbeats 4000000 in
set_option maxRecDepth 100000 in
theorem swapRange_calls (a b n cap : Nat) (fv : Value) (R : Row1 encB w0 blk off d0) (hs : d0.size = d.size) (S : SW encB w0 blk off d w) (h1 : a + n ≤ b) (h2 : b + n ≤ d.size) (hsz : d.size < 4611686018427387904) :
    Calls Tryz.prog 102 #[.slice (some ⟨blk, off, none⟩) d.size cap, .int .i64 a, .int .i64 b, .int .i64 n, fv] w fun e w' => e = .returned (.tuple #[]) ∧ ∃ d', SwR a b n d d' ∧ SW encB w0 blk off d' w' := by
  have hm : Tryz.prog.follows .mixedOrders = true := rfl
  have hcl0 := encB_one.cells
  simp only [Value.cells] at hcl0
  have hst := encB_one.store Tryz.prog
  have S0 : Aside (SW encB w0 blk off d w) := S
  clear S
  go_enter Tryz.func102, Tryz.ntmps102
  go_wp2
  go_loopg [10] n (fun g vi wr => ∃ (i : Nat) (dk : Array Bk), vi = .int .i64 i ∧ i ≤ n ∧ n - i ≤ g ∧ dk.size = d.size ∧ Aside (SW encB w0 blk off dk wr) ∧ Aside (PermIn a (b + n) d dk) ∧ Hid (∀ t, dk[t]! = if a ≤ t ∧ t < a + i then d[t + (b - a)]! else if b ≤ t ∧ t < b + i then d[t - (b - a)]! else d[t]!))
  case atStart => exact ⟨0, d, by go_num, by omega, by omega, rfl, S0, permIn_refl _ _ _, (SwR.start a b d n).2.2⟩
  case round =>
    clear S0
    obtain ⟨i, dk, rfl, hi, hg, hsk, S1, PM, HT⟩ := hrel
    by_cases hlt : i < n
    · have hltz : (i : Int) < (n : Int) := by omega
      obtain ⟨iN, hiN⟩ : ∃ q, q = a + i := ⟨_, rfl⟩
      obtain ⟨jN, hjN⟩ : ∃ q, q = b + i := ⟨_, rfl⟩
      have ea : ((a : Int) + (i : Int)).toNat = iN := by omega
      have pa : (0 : Int) ≤ (a : Int) + (i : Int) := by omega
      have ba : (a : Int) + (i : Int) < (d.size : Int) := by omega
      have ra : IntKind.i64.wrap ((a : Int) + (i : Int)) = (a : Int) + (i : Int) := by rw [IntKind.wrap_i64]; omega
      have ec : ((b : Int) + (i : Int)).toNat = jN := by omega
      have pc : (0 : Int) ≤ (b : Int) + (i : Int) := by omega
      have bc : (b : Int) + (i : Int) < (d.size : Int) := by omega
      have rc : IntKind.i64.wrap ((b : Int) + (i : Int)) = (b : Int) + (i : Int) := by rw [IntKind.wrap_i64]; omega
      obtain ⟨x, hx⟩ : ∃ x, x = dk[a + i]! := ⟨_, rfl⟩
      obtain ⟨y, hy⟩ : ∃ x, x = dk[b + i]! := ⟨_, rfl⟩
      have S3 : Aside (SW encB w0 blk off (swp dk (a + i) (b + i)) ((wr.setCell ⟨blk, off + iN, none⟩ (encB y)).setCell ⟨blk, off + jN, none⟩ (encB x)).drew) := by rw [hiN, hjN, hx, hy]; exact S1.out.swapped R (a + i) (b + i) (by omega) (by omega)
      have c1 := S1.out.c1 R (by omega) (a + i) (by omega)
      have c2 := S1.out.c1 R (by omega) (b + i) (by omega)
      have f1 := S1.out.f1 R (by omega) (a + i) (by omega)
      have f2 := S1.out.f1 R (by omega) (b + i) (by omega)
      obtain ⟨u, c3⟩ := S1.out.c2 R (by omega) (a + i) (b + i) (by omega) (by omega) (encB y)
      rw [← hjN, ← hiN] at c3
      rw [← hx, ← hiN] at c1
      rw [← hy, ← hjN] at c2
      rw [← hiN] at f1
      rw [← hjN] at f2
      clear S1 hx hy hiN hjN
      go_wp2_with fail
      go_big_region_o
      clear c1 c2 c3 f1 f2
      generalize ((wr.setCell ⟨blk, off + iN, none⟩ (encB y)).setCell ⟨blk, off + jN, none⟩ (encB x)).drew = w3 at S3 ⊢
      clear ea ec
      go_wp2
      go_roundg (n - (i + 1))
      case measure => omega
      case rel =>
        refine ⟨i + 1, swp dk (a + i) (b + i), by go_num, by omega, Nat.le_refl _, by rw [size_swp]; exact hsk, S3, (show Aside _ from permIn_trans _ _ _ _ _ PM.out (swp_permIn _ _ _ _ _ (by omega) (by omega) (by omega) (by omega) (by omega))), (show Hid _ from fun t => ?_)⟩
        rw [swp_at _ (by omega) (by omega), HT.out, HT.out, HT.out]
        repeat' split
        all_goals first | (exfalso; omega) | rfl | (congr 1; omega)
    · obtain rfl : i = n := by omega
      have hltz : ¬ (i : Int) < (i : Int) := by omega
      go_wp2
      go_end0
      exact ⟨rfl, dk, ⟨PM.out, hsk, HT.out⟩, S1.out⟩

/-- [a, m) and [m, b) have changed places, each in its order. -/
structure RoR (a m b : Nat) (d d' : Array Bk) : Prop where
  perm : PermIn a b d d'
  size : d'.size = d.size
  at_ : ∀ t, d'[t]! = if a ≤ t ∧ t < b then (if t < a + (b - m) then d[t + (m - a)]! else d[t - (b - m)]!) else d[t]!

theorem perm_part {d dk dk' : Array Bk} {a b x y : Nat} (h : PermIn a b d dk) (k : PermIn x y dk dk') (hx : a ≤ x) (hy : y ≤ b) (hb : b ≤ dk.size) : PermIn a b d dk' :=
  permIn_trans _ _ _ _ _ h (permIn_mono _ _ _ _ _ _ hx hy hb k)

theorem rot_gt {m i j : Nat} {dk dk' : Array Bk} {T : Nat → Bk} (hij : j < i) (him : i ≤ m) (h : ∀ t, T t = if m - i ≤ t ∧ t < m + j then (if t < m - i + j then dk[t + i]! else dk[t - j]!) else dk[t]!) (hs : ∀ t, dk'[t]! = if m - i ≤ t ∧ t < m - i + j then dk[t + (m - (m - i))]! else if m ≤ t ∧ t < m + j then dk[t - (m - (m - i))]! else dk[t]!) :
    ∀ t, T t = if m - (i - j) ≤ t ∧ t < m + j then (if t < m - (i - j) + j then dk'[t + (i - j)]! else dk'[t - j]!) else dk'[t]! := by
  intro t
  rw [h, hs, hs, hs]
  repeat' split
  all_goals first | (exfalso; omega) | rfl | (congr 1; omega)

theorem rot_lt {m i j : Nat} {dk dk' : Array Bk} {T : Nat → Bk} (hij : i < j) (him : i ≤ m) (h : ∀ t, T t = if m - i ≤ t ∧ t < m + j then (if t < m - i + j then dk[t + i]! else dk[t - j]!) else dk[t]!) (hs : ∀ t, dk'[t]! = if m - i ≤ t ∧ t < m - i + i then dk[t + ((m + j - i) - (m - i))]! else if m + j - i ≤ t ∧ t < (m + j - i) + i then dk[t - ((m + j - i) - (m - i))]! else dk[t]!) :
    ∀ t, T t = if m - i ≤ t ∧ t < m + (j - i) then (if t < m - i + (j - i) then dk'[t + i]! else dk'[t - (j - i)]!) else dk'[t]! := by
  intro t
  rw [h, hs, hs, hs]
  repeat' split
  all_goals first | (exfalso; omega) | rfl | (congr 1; omega)

theorem rot_eq {m i : Nat} {dk dk' : Array Bk} {T : Nat → Bk} (him : i ≤ m) (h : ∀ t, T t = if m - i ≤ t ∧ t < m + i then (if t < m - i + i then dk[t + i]! else dk[t - i]!) else dk[t]!) (hs : ∀ t, dk'[t]! = if m - i ≤ t ∧ t < m - i + i then dk[t + (m - (m - i))]! else if m ≤ t ∧ t < m + i then dk[t - (m - (m - i))]! else dk[t]!) :
    ∀ t, dk'[t]! = T t := by
  intro t
  rw [h, hs]
  repeat' split
  all_goals first | (exfalso; omega) | rfl | (congr 1; omega)

theorem swapRange_z (a b n cap : Nat) (ai bi ni : Int) (fv : Value) (ha : (a : Int) = ai) (hb : (b : Int) = bi) (hn : (n : Int) = ni) (sz : Nat) (R : Row1 encB w0 blk off d0) (hs : d0.size = sz) (hds : d.size = sz) (S : SW encB w0 blk off d w) (h1 : a + n ≤ b) (h2 : b + n ≤ sz) (hsz : sz < 4611686018427387904) :
    Calls Tryz.prog 102 #[.slice (some ⟨blk, off, none⟩) sz cap, .int .i64 ai, .int .i64 bi, .int .i64 ni, fv] w fun e w' => e = .returned (.tuple #[]) ∧ ∃ d', SwR a b n d d' ∧ SW encB w0 blk off d' w' := by
  subst ha hb hn hds
  exact swapRange_calls a b n cap fv R hs S h1 h2 hsz

set_option maxHeartbeats 4000000 in
set_option maxRecDepth 100000 in
theorem rotate_calls (a m b cap : Nat) (fv : Value) (R : Row1 encB w0 blk off d0) (hs : d0.size = d.size) (S : SW encB w0 blk off d w) (h1 : a < m) (h2 : m < b) (h3 : b ≤ d.size) (hsz : d.size < 4611686018427387904) :
    Calls Tryz.prog 90 #[.slice (some ⟨blk, off, none⟩) d.size cap, .int .i64 a, .int .i64 m, .int .i64 b, fv] w fun e w' => e = .returned (.tuple #[]) ∧ ∃ d', RoR a m b d d' ∧ SW encB w0 blk off d' w' := by
  obtain ⟨T, hT⟩ : ∃ T : Nat → Bk, Aside (∀ t, T t = if a ≤ t ∧ t < b then (if t < a + (b - m) then d[t + (m - a)]! else d[t - (b - m)]!) else d[t]!) := ⟨_, fun t => rfl⟩
  have S0 : Aside (SW encB w0 blk off d w) := S
  clear S
  have e1 : IntKind.i64.wrap ((m : Int) - (a : Int)) = ((m - a : Nat) : Int) := by rw [IntKind.wrap_i64]; omega
  have e2 : IntKind.i64.wrap ((b : Int) - (m : Int)) = ((b - m : Nat) : Int) := by rw [IntKind.wrap_i64]; omega
  go_enter Tryz.func90, Tryz.ntmps90
  go_wp2
  go_loopg [10, 11] (b - a) (fun g vi vj wr => ∃ (i j : Nat) (dk : Array Bk), vi = .int .i64 i ∧ vj = .int .i64 j ∧ 1 ≤ i ∧ 1 ≤ j ∧ i ≤ m - a ∧ j ≤ b - m ∧ i + j ≤ g ∧ dk.size = d.size ∧ Aside (SW encB w0 blk off dk wr) ∧ Aside (PermIn a b d dk) ∧ Hid (∀ t, T t = if m - i ≤ t ∧ t < m + j then (if t < m - i + j then dk[t + i]! else dk[t - j]!) else dk[t]!))
  case atStart =>
    refine ⟨m - a, b - m, d, by go_num, by go_num, by omega, by omega, by omega, by omega, by omega, rfl, S0, permIn_refl _ _ _, (show Hid _ from fun t => ?_)⟩
    rw [hT.out]
    repeat' split
    all_goals first | (exfalso; omega) | rfl | (congr 1; omega)
  case round =>
    clear S0 e1 e2
    obtain ⟨i, j, dk, rfl, rfl, hi, hj, him, hjm, hg, hsk, S1, PM, HT⟩ := hrel
    by_cases heq : i = j
    · subst heq
      have hne : ((i : Int) != (i : Int)) = false := by simp
      have e3 : IntKind.i64.wrap ((m : Int) - (i : Int)) = ((m - i : Nat) : Int) := by rw [IntKind.wrap_i64]; omega
      have hsw := swapRange_calls (m - i) m i cap fv R (d := dk) (by omega) S1.out (by omega) (by omega) (by omega)
      rw [hsk] at hsw
      go_wp2_with fail
      refine hsw.mono ?_
      rintro e w' ⟨rfl, d', X, S2⟩
      go_wp2
      go_end0
      exact ⟨rfl, d', ⟨perm_part PM.out X.perm (by omega) (by omega) (by omega), by rw [X.size, hsk], fun t => by rw [← hT.out]; exact rot_eq (by omega) HT.out X.at_ t⟩, S2⟩
    · have hne : ((i : Int) != (j : Int)) = true := by simp; omega
      by_cases hgt : j < i
      · have hgz : decide ((j : Int) < (i : Int)) = true := decide_eq_true (by omega)
        have hgz2 : (j : Int) < (i : Int) := by omega
        have e3 : IntKind.i64.wrap ((m : Int) - (i : Int)) = ((m - i : Nat) : Int) := by rw [IntKind.wrap_i64]; omega
        have e4 : IntKind.i64.wrap ((i : Int) - (j : Int)) = ((i - j : Nat) : Int) := by rw [IntKind.wrap_i64]; omega
        have hsw := swapRange_calls (m - i) m j cap fv R (d := dk) (by omega) S1.out (by omega) (by omega) (by omega)
        rw [hsk] at hsw
        go_wp2_with fail
        refine hsw.mono ?_
        rintro e w' ⟨rfl, d', X, S2⟩
        go_wp2
        go_roundg (i - j + j)
        case measure => omega
        case rel => exact ⟨i - j, j, d', by first | rfl | go_num, rfl, by omega, by omega, by omega, by omega, Nat.le_refl _, by rw [X.size, hsk], S2, perm_part PM.out X.perm (by omega) (by omega) (by omega), (show Hid _ from rot_gt hgt (by omega) HT.out X.at_)⟩
      · have hgz : decide ((j : Int) < (i : Int)) = false := decide_eq_false (by omega)
        have hgz2 : ¬ (j : Int) < (i : Int) := by omega
        have e3 : IntKind.i64.wrap ((m : Int) - (i : Int)) = ((m - i : Nat) : Int) := by rw [IntKind.wrap_i64]; omega
        have e4 : IntKind.i64.wrap ((j : Int) - (i : Int)) = ((j - i : Nat) : Int) := by rw [IntKind.wrap_i64]; omega
        have e5 : IntKind.i64.wrap ((m : Int) + (j : Int)) = (m : Int) + (j : Int) := by rw [IntKind.wrap_i64]; omega
        have e6 : IntKind.i64.wrap ((m : Int) + (j : Int) - (i : Int)) = ((m + j - i : Nat) : Int) := by rw [IntKind.wrap_i64]; omega
        have hsw := swapRange_calls (m - i) (m + j - i) i cap fv R (d := dk) (by omega) S1.out (by omega) (by omega) (by omega)
        rw [hsk] at hsw
        go_wp2_with fail
        refine hsw.mono ?_
        rintro e w' ⟨rfl, d', X, S2⟩
        go_wp2
        go_roundg (i + (j - i))
        case measure => omega
        case rel => exact ⟨i, j - i, d', rfl, by first | rfl | go_num, by omega, by omega, by omega, by omega, Nat.le_refl _, by rw [X.size, hsk], S2, perm_part PM.out X.perm (by omega) (by omega) (by omega), (show Hid _ from rot_lt (by omega) (by omega) HT.out X.at_)⟩
end Go.Proofs.YtfliapankgdeeaaGreat.A
