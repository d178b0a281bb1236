/- slices.Clone and slices.CompactFunc at []Item. -/
import Derived.Test.YtfliapankgdeeaaGreatEvF
namespace Go.Proofs.YtfliapankgdeeaaGreat.A
open Go.RowKit Go.Shelf Go.Lib Go.Sort Go.Proofs.YtfliapankgdeeaaGreatW.PrintWords Go.Proofs.YtfliapankgdeeaaGreatW.PrintLast Go.Proofs.YtfliapankgdeeaaGreatW.PrintMore Go.Proofs.YtfliapankgdeeaaGreat.G
set_option linter.unusedVariables false
set_option linter.unusedSimpArgs false

/-- A row of items that is read. -/
def Cel (w : World) (A : Option Addr) (l : List It) : Prop := ∀ t u, (l.flatMap encI)[t]? = some u → ∃ ad, A = some ad ∧ w.cell? (ad.add t) = some u
theorem cel_of_C {w : World} {A : Option Addr} {l : List It} (h : Kd.C k35 w A l.length l) : Cel w A l := by
  intro t u hu
  have ht : t < l.length * 2 := by
    have := (List.getElem?_eq_some_iff.1 hu).1
    rwa [fm_len encI_two] at this
  obtain ⟨ad, e, hc⟩ := h.2.2 (by omega)
  refine ⟨ad, e, ?_⟩
  have h1 : t / 2 < l.length := by omega
  obtain ⟨c, hl, hK, hcell⟩ := hc (t / 2) l[t / 2] (List.getElem?_eq_getElem h1)
  have hK := k35_open hK
  have e1 := fm_get encI_two l (t / 2) (t % 2) h1 (by omega)
  rw [show t / 2 * 2 + t % 2 = t by omega] at e1
  have := hcell (t % 2) u (by rw [hK]; rw [e1] at hu; exact hu)
  rwa [show t / 2 * (k35).sz + t % 2 = t from (show t / 2 * 2 + t % 2 = t by omega)] at this
theorem cel_of_Rw {w : World} {base n cap : Nat} {v : Value} {l : List It} {A : Option Addr} (h : Rw encI w base 35 v l) (hv : v = .slice A n cap) : Cel w A l := by
  intro t u hu
  have ht : t < l.length * 2 := by
    have := (List.getElem?_eq_some_iff.1 hu).1
    rwa [fm_len encI_two] at this
  obtain ⟨g, c, rfl, _⟩ := h.at_ (by omega)
  cases hv
  refine ⟨_, rfl, ?_⟩
  have e1 := h.cell encI_two (t / 2) (by omega) (t % 2) (by omega)
  have e2 := fm_get encI_two l (t / 2) (t % 2) (by omega) (by omega)
  rw [show t / 2 * 2 + t % 2 = t by omega] at e1 e2
  rw [Addr.add_lit, Nat.zero_add, e1, ← e2]
  exact hu

set_option maxHeartbeats 2000000 in
set_option maxRecDepth 100000 in
theorem Clone_calls (A : Option Addr) (c : Nat) (l : List It) (w : World) (hC : Cel w A l) (hn : l.length < 1000) :
    Calls Tryz.prog 34 #[.slice A l.length c] w fun e w' => ∃ v, e = .returned v ∧ Rw encI w' w.heap.size 35 v l ∧ Below w.heap.size w w' := by
  have q22 : ∀ (w : World) (a : Option Addr) (n c n' c' : Nat), (binOp .eql 23 (.slice a n c) (.slice none n' c')).run Tryz.prog w = .ok (.bool a.isNone) w := fun w a n c n' c' => Lib.run_eql_slice_nil w _ _ a n c n' c' Tryz.underlying23
  cases A with
  | none =>
    have h0 : l = [] := by
      cases l with
      | nil => rfl
      | cons x r =>
        obtain ⟨ad, h, _⟩ := hC 0 (.int .i64 x.f0) (by simp [encI])
        cases h
    subst h0
    go_enter Tryz.func34, Tryz.ntmps34
    go_wp2
    go_ret
    exact ⟨_, rfl, World.ownsRow_nil _ _ _ _, Below.refl _ _⟩
  | some ad =>
    have HC : Aside (Cel w (some ad) l) := hC
    have hinf : (Tryz.prog.info? 35).map (fun i => (i.zero, i.size, i.bytes)) = some (some (.agg #[(.int .i64 0), (.int .i64 0)]), 2, 16) := by kernel_rfl
    obtain ⟨i0, hi, hi2⟩ := Option.map_eq_some_iff.1 hinf
    simp only [Prod.mk.injEq] at hi2
    obtain ⟨hz0, hz1, hz2⟩ := hi2
    clear hC hinf
    go_enter Tryz.func34, Tryz.ntmps34
    go_wp2_with (at_builtin; refine wpList_append_own _ rfl _ _ 23 rfl w.heap.size 35 i0 (.agg #[.int .i64 0, .int .i64 0]) 2 16 Tryz.underlying23 hi hz0 hz1 hz2 rfl (by decide) _ _ _ rfl (World.ownsRow_made w #[] 0 (Nat.le_refl _) (Nat.zero_le _) (by simp)) ad l.length c (l.flatMap encI) rfl ?qc1 ?qc2 ?qc3 ?qc4 ?qc5 ?qc6 ?_)
    case qc1 => exact fm_len encI_two l
    case qc2 =>
      intro j u hj
      obtain ⟨ad', e, hc⟩ := HC.out j u hj
      cases e
      exact Lib.cell?_alloc_some _ hc
    case qc3 =>
      intro u hu
      obtain ⟨x, _, hx⟩ := List.mem_flatMap.1 hu
      simp [encI] at hx
      rcases hx with rfl | rfl <;> rfl
    case qc4 => rw [Nat.zero_add]; simp only [maxLen]; omega
    case qc5 => rw [Nat.zero_add]; omega
    case qc6 => simp
    intro v' w1 hown hgrow hnil
    go_wp2
    go_ret
    refine ⟨v', rfl, ?_, ?_⟩
    · have hown : w1.ownsRow w.heap.size 35 2 v' l.length (l.flatMap encI) := by simpa using hown
      exact hown
    · exact ((Below.refl _ w).alloc (Nat.le_refl _) _).grown hgrow (by simp) (by intro k hk; simp [Value.ownBlock] at hk; omega)

/-- The comparison of two items' ids. -/
theorem sorted2_calls (x y : It) (w : World) : Calls Tryz.prog 38 #[.agg (encI x).toArray, .agg (encI y).toArray] w fun e w' => e = .returned (.bool (x.f0 == y.f0)) ∧ ∃ q os', w' = grow (w.drewN q) os' := by
  show Calls Tryz.prog 38 #[.agg #[.int .i64 x.f0, .int .i64 x.f1], .agg #[.int .i64 y.f0, .int .i64 y.f1]] w _
  go_enter Tryz.func38, Tryz.ntmps38
  go_wp2
  go_ret
  exact ⟨rfl, 0, _, by rw [alloc_eq_grow, alloc_eq_grow, grow_grow]; rfl⟩

theorem eqc {W : World} (x y : It) (n : Nat) (os : Array Obj) :
    Calls Tryz.prog 38 (#[.agg (encI x).toArray, .agg (encI y).toArray] ++ #[]) (grow (W.drewN n) os) fun e w' => e = .returned (.bool (x.f0 == y.f0)) ∧ ∃ q os', w' = grow ((grow (W.drewN n) os).drewN q) os' := sorted2_calls x y _

theorem swk_cell {w0 W : World} {g : Nat} {d0 dk : Array It} (h : SWK encI 2 w0 g 0 dk W) (R : RowK encI 2 w0 g 0 d0) (hs : dk.size = d0.size) (i : Nat) (hi : i < dk.size) :
    W.cell? ⟨g, i * 2, none⟩ = some (.int .i64 dk[i]!.f0) ∧ W.cell? ⟨g, i * 2 + 1, none⟩ = some (.int .i64 dk[i]!.f1) ∧ W.frozen? ⟨g, i * 2, none⟩ = false ∧ W.frozen? ⟨g, i * 2 + 1, none⟩ = false := by
  have H : HoldsK encI 2 W g 0 dk := h.holds R.hblk R.hH hs
  have h0 := H (i * 2) (by simp; omega)
  have h1 := H (i * 2 + 1) (by simp; omega)
  rw [get_flatK _ _ _ _ (by omega), Nat.zero_add] at h0 h1
  rw [show i * 2 / 2 = i by omega, show i * 2 % 2 = 0 by omega] at h0
  rw [show (i * 2 + 1) / 2 = i by omega, show (i * 2 + 1) % 2 = 1 by omega] at h1
  exact ⟨h0.1, h1.1, h0.2, h1.2⟩

theorem swk_eff {w0 W : World} {g : Nat} {dk : Array It} (h : SWK encI 2 w0 g 0 dk W) : Eff w0 W (fun k => k = g) := by
  obtain ⟨m, os, rfl⟩ := h
  refine ⟨rfl, rfl, rfl, size_sortWorldK_c encI 2 w0 g 0 m dk os, fun q hq hne => ?_⟩
  unfold sortWorldK
  rw [heap_grow_old _ _ (by rw [size_putRowK]; exact hq)]
  have : g ≠ q := fun e => hne e.symm
  simp [putRowK, putRow, mapBlock, Sort.ahead, Array.getElem?_modify, this]
theorem setMany_set (d : Array It) (i : Nat) (hi : i < d.size) (x : It) : setMany (flatK encI 2 d) (i * 2) (encI x) = flatK encI 2 (d.setIfInBounds i x) := by
  refine ext_get! (by simp) fun t ht => ?_
  have ht' : t < d.size * 2 := by simpa using ht
  rw [get_setMany _ _ _ t (by simpa using ht'), get_flatK _ _ _ t ht', get_flatK _ _ _ t (by simpa using ht'), encI_two]
  by_cases a : t / 2 = i
  · subst a
    rw [if_pos (by omega), getElem!_set_same _ _ _ hi, show t - t / 2 * 2 = t % 2 by omega]
  · rw [if_neg (by omega)]
    congr 2
    rw [getElem!_pos d (t / 2) (by omega), getElem!_pos (d.setIfInBounds i x) (t / 2) (by simp; omega), Array.getElem_setIfInBounds_ne _ (fun e => a e.symm)]
theorem swk_set {w0 W : World} {g : Nat} {dk : Array It} (h : SWK encI 2 w0 g 0 dk W) (hg : g < w0.heap.size) (i : Nat) (hi : i < dk.size) (x : It) :
    SWK encI 2 w0 g 0 (dk.setIfInBounds i x) ((W.setCell ⟨g, i * 2, none⟩ (.int .i64 x.f0)).setCell ⟨g, i * 2 + 1, none⟩ (.int .i64 x.f1)) := by
  obtain ⟨n, os, rfl⟩ := h
  refine ⟨n, os, ?_⟩
  show (sortWorldK encI 2 w0 g 0 n dk os).setCells g (i * 2) (encI x) = _
  unfold sortWorldK
  rw [setCells_grow os g _ _ _ (by rw [size_putRowK]; exact hg)]
  congr 1
  unfold putRowK
  rw [show i * 2 = 0 + i * 2 by omega, setCells_putRow _ _ _ _ _ _ (by rw [encI_two, size_flatK]; omega), setMany_set dk i hi]

set_option maxHeartbeats 8000000 in
set_option maxRecDepth 100000 in
theorem Compact_big (g cap : Nat) (d : Array It) (w : World) (R : RowK encI 2 w g 0 d) (h2 : 2 ≤ d.size) (hn : d.size < 1000) (hcap : d.size ≤ cap) :
    Calls Tryz.prog 37 #[.slice (some ⟨g, 0, none⟩) d.size cap, .func (.func 38) #[] #[]] w fun e w' => ∃ n, e = .returned (.slice (some ⟨g, 0, none⟩) n cap) ∧ n ≤ d.size ∧ (n = d.size ↔ ∀ i, i + 1 < d.size → d[i]!.f0 ≠ d[i + 1]!.f0) ∧ Eff w w' (fun k => k = g) := by
  have hm : Tryz.prog.follows .mixedOrders = true := rfl
  have eg : ∀ args w, (callFunc 38 args).run Tryz.prog w = .ok (.enter 38 args) w := enters_of Tryz.func38 (by kernel_rfl) rfl
  have S0 : Aside (SWK encI 2 w g 0 d w) := SWK.start R.hH
  go_enter Tryz.func37, Tryz.ntmps37
  go_wp2
  go_loopg [5] d.size (fun gg vi wr => ∃ (K : Nat), vi = .int .i64 K ∧ 1 ≤ K ∧ K ≤ d.size ∧ d.size - K ≤ gg ∧ Aside (SWK encI 2 w g 0 d wr) ∧ Aside (∀ j, j + 1 < K → d[j]!.f0 ≠ d[j + 1]!.f0))
  case atStart => exact ⟨1, by go_num, Nat.le_refl _, by omega, by omega, S0, fun j hj => absurd hj (by omega)⟩
  case round =>
    clear S0
    obtain ⟨K, rfl, hK1, hi, hg, S1, N1⟩ := hrel
    by_cases hlt : K < d.size
    · have hltz : (K : Int) < (d.size : Int) := by omega
      obtain ⟨i, hiK⟩ : ∃ i, i + 1 = K := ⟨K - 1, by omega⟩
      have hltz2 : (i : Int) < (d.size : Int) := by omega
      obtain ⟨x, hx⟩ : ∃ x, x = d[K]! := ⟨_, rfl⟩
      obtain ⟨y, hy⟩ : ∃ y, y = d[i]! := ⟨_, rfl⟩
      have a0 := fun n os => (swk_cell (S1.out.grown n os) R rfl K hlt).1
      have a1 := fun n os => (swk_cell (S1.out.grown n os) R rfl K hlt).2.1
      have b0 := fun n os => (swk_cell (S1.out.grown n os) R rfl i (by omega)).1
      have b1 := fun n os => (swk_cell (S1.out.grown n os) R rfl i (by omega)).2.1
      rw [← hx] at a0 a1
      rw [← hy] at b0 b1
      have hc := eqc (W := wr) x y
      have em : (K : Int) - 1 = (i : Int) := by omega
      have ew : IntKind.i64.wrap (i : Int) = (i : Int) := by rw [IntKind.wrap_i64]; omega
      have X := Aside0.mk hx
      have Y := Aside0.mk hy
      have HIK := Aside0.mk hiK
      clear hx hy hiK
      cases ht : (x.f0 == y.f0) with
      | false =>
        rw [ht] at hc
        have HT := Aside0.mk ht
        clear ht
        go_wp2_with fail
        go_quiet_grown (first | (go_at_fn 38; refine Calls.grown_of (hc _ _)))
        have S2 : Aside (SWK encI 2 w g 0 d (grow (wr.drewN nq) osq)) := S1.out.grown nq osq
        clear a0 a1 b0 b1 hc S1
        generalize grow (wr.drewN nq) osq = w2 at S2 ⊢
        clear nq osq
        go_wp2
        go_roundg (d.size - (K + 1))
        case measure => omega
        case rel =>
          refine ⟨K + 1, by go_num, by omega, hlt, Nat.le_refl _, S2, (show Aside _ from fun j hj => ?_)⟩
          have hiK := HIK.out
          by_cases q : j = i
          · subst q
            rw [hiK, ← X.out, ← Y.out]
            exact fun e => by have := HT.out; rw [e] at this; simp at this
          · exact N1.out j (by omega)
      | true =>
        rw [ht] at hc
        have HT := Aside0.mk ht
        clear ht
        go_wp2_with fail
        go_quiet_grown (first | (go_at_fn 38; refine Calls.grown_of (hc _ _)))
        have S2 : Aside (SWK encI 2 w g 0 d (grow (wr.drewN nq) osq)) := S1.out.grown nq osq
        clear a0 a1 b0 b1 hc S1
        generalize grow (wr.drewN nq) osq = w2 at S2 ⊢
        clear nq osq
        have hNE : Aside (¬ ∀ j, j + 1 < d.size → d[j]!.f0 ≠ d[j + 1]!.f0) := fun h => h i (by rw [HIK.out]; exact hlt) (by rw [HIK.out, ← X.out, ← Y.out]; exact (beq_iff_eq.1 HT.out).symm)
        clear X Y N1 HT em ew hltz2
        go_wp2
        go_loopg [5, 7] d.size (fun gg vk vj wr => ∃ (k q : Nat) (dk : Array It), vk = .int .i64 k ∧ vj = .int .i64 (q + 1 : Nat) ∧ K ≤ k ∧ k ≤ K + q ∧ q + 1 ≤ d.size - K ∧ d.size - (q + 1) ≤ gg ∧ dk.size = d.size ∧ Aside (SWK encI 2 w g 0 dk wr))
        case atStart => exact ⟨K, 0, d, rfl, by go_num, Nat.le_refl _, by omega, by omega, by omega, rfl, S2⟩
        case round =>
          clear S2
          obtain ⟨k, q, dk, rfl, rfl, hKk, hkq, hqm, hg2, hdk, S1⟩ := hrel
          have hlen : ((d.size - K : Nat) : Int) = (d.size : Int) - (K : Int) := by omega
          by_cases hlt2 : q + 1 < d.size - K
          · have hlt2z : (q : Int) + 1 < (d.size : Int) - (K : Int) := by omega
            have hlt2y : (q : Int) < (d.size : Int) - (K : Int) := by omega
            obtain ⟨x, hx⟩ : ∃ x, x = dk[K + (q + 1)]! := ⟨_, rfl⟩
            obtain ⟨y, hy⟩ : ∃ y, y = dk[K + q]! := ⟨_, rfl⟩
            have ax : (K + (q + 1)) * 2 = K * 2 + (q + 1) * 2 := by omega
            have ay : (K + q) * 2 = K * 2 + q * 2 := by omega
            have a0 := fun n os => (swk_cell (S1.out.grown n os) R hdk (K + (q + 1)) (by omega)).1
            have a1 := fun n os => (swk_cell (S1.out.grown n os) R hdk (K + (q + 1)) (by omega)).2.1
            have b0 := fun n os => (swk_cell (S1.out.grown n os) R hdk (K + q) (by omega)).1
            have b1 := fun n os => (swk_cell (S1.out.grown n os) R hdk (K + q) (by omega)).2.1
            rw [← hx, ax] at a0 a1
            rw [← hy, ay] at b0 b1
            have hc := eqc (W := wr) x y
            have em2 : (q : Int) + 1 - 1 = (q : Int) := by omega
            have ew2 : IntKind.i64.wrap (q : Int) = (q : Int) := by rw [IntKind.wrap_i64]; omega
            have e0 : ((q : Int) + 1).toNat = q + 1 := by omega
            have p0 : (0 : Int) ≤ (q : Int) + 1 := by omega
            have X := Aside0.mk hx
            clear hx hy ax ay
            cases ht : (x.f0 == y.f0) with
            | true =>
              rw [ht] at hc
              clear ht
              go_wp2_with fail
              go_quiet_grown (first | (go_at_fn 38; refine Calls.grown_of (hc _ _)))
              have S2 : Aside (SWK encI 2 w g 0 dk (grow (wr.drewN nq) osq)) := S1.out.grown nq osq
              clear a0 a1 b0 b1 hc S1
              generalize grow (wr.drewN nq) osq = w2 at S2 ⊢
              clear nq osq
              go_wp2
              go_roundg (d.size - (q + 1 + 1))
              case measure => omega
              case rel => exact ⟨k, q + 1, dk, rfl, by go_num, hKk, by omega, by omega, Nat.le_refl _, hdk, S2⟩
            | false =>
              rw [ht] at hc
              clear ht
              go_wp2_with fail
              go_quiet_grown (first | (go_at_fn 38; refine Calls.grown_of (hc _ _)))
              have S2 : Aside (SWK encI 2 w g 0 dk (grow (wr.drewN nq) osq)) := S1.out.grown nq osq
              clear a0 a1 b0 b1 hc S1
              generalize grow (wr.drewN nq) osq = w2 at S2 ⊢
              clear nq osq
              have a0 := (swk_cell S2.out R hdk (K + (q + 1)) (by omega)).1
              have a1 := (swk_cell S2.out R hdk (K + (q + 1)) (by omega)).2.1
              rw [← X.out, show (K + (q + 1)) * 2 = K * 2 + (q + 1) * 2 by omega] at a0 a1
              obtain ⟨c2, c3, f2, f3⟩ := swk_cell S2.out R hdk k (by omega)
              have c4 : (w2.setCell ⟨g, k * 2, none⟩ (.int .i64 x.f0)).cell? ⟨g, k * 2 + 1, none⟩ = some (.int .i64 dk[k]!.f1) := (World.cell?_setCell_other _ _ _ _ (by intro e; simp only [Addr.mk.injEq] at e; omega)).trans c3
              generalize dk[k]!.f0 = u0 at c2
              generalize dk[k]!.f1 = u1 at c3 c4
              have S3 : Aside (SWK encI 2 w g 0 (dk.setIfInBounds k x) ((w2.setCell ⟨g, k * 2, none⟩ (.int .i64 x.f0)).setCell ⟨g, k * 2 + 1, none⟩ (.int .i64 x.f1))) := swk_set S2.out R.hblk k (by omega) x
              have hkz : (k : Int) < (d.size : Int) := by omega
              clear c3 S2
              go_wp2
              go_roundg (d.size - (q + 1 + 1))
              case measure => omega
              case rel => exact ⟨k + 1, q + 1, dk.setIfInBounds k x, by go_num, by go_num, by omega, by omega, by omega, Nat.le_refl _, by simpa using hdk, S3⟩
          · have hlt2z : ¬ (q : Int) + 1 < (d.size : Int) - (K : Int) := by omega
            have hkd : k < d.size := by omega
            have hcl : ∀ ty, (Builtin.clear_ #[23] ty #[.slice (some ⟨g, k * 2, none⟩) (d.size - k) (cap - k)]).run Tryz.prog wr = .ok (.tuple #[]) (wr.setCells g (k * 2) (List.replicate ((d.size - k) * 2) (.int .i64 0))) := fun ty =>
              run_clear2 wr g (k * 2) (d.size - k) (cap - k) ty (by omega) (fun t ht => by
                obtain ⟨r, c, hr, hc, rfl⟩ : ∃ r c, r < d.size - k ∧ c < 2 ∧ t = r * 2 + c := ⟨t / 2, t % 2, by omega, by omega, by omega⟩
                obtain ⟨c0, c1, _, _⟩ := swk_cell S1.out R hdk (k + r) (by omega)
                have : c = 0 ∨ c = 1 := by omega
                rcases this with rfl | rfl
                · rw [show k * 2 + (r * 2 + 0) = (k + r) * 2 by omega, c0]; rfl
                · rw [show k * 2 + (r * 2 + 1) = (k + r) * 2 + 1 by omega, c1]; rfl) (fun t ht => by
                obtain ⟨r, c, hr, hc, rfl⟩ : ∃ r c, r < d.size - k ∧ c < 2 ∧ t = r * 2 + c := ⟨t / 2, t % 2, by omega, by omega, by omega⟩
                obtain ⟨_, _, c0, c1⟩ := swk_cell S1.out R hdk (k + r) (by omega)
                have : c = 0 ∨ c = 1 := by omega
                rcases this with rfl | rfl
                · rw [show k * 2 + (r * 2 + 0) = (k + r) * 2 by omega, c0]
                · rw [show k * 2 + (r * 2 + 1) = (k + r) * 2 + 1 by omega, c1])
            go_wp2
            go_ret
            exact ⟨k, rfl, by omega, ⟨fun e => absurd e (by omega), fun h => absurd h hNE.out⟩, eff_sets (S := fun k => k = g) rfl _ _ _ _ (swk_eff S1.out)⟩
    · obtain rfl : K = d.size := by omega
      have hltz : ¬ (d.size : Int) < (d.size : Int) := by omega
      go_wp2
      go_ret
      exact ⟨_, rfl, Nat.le_refl _, ⟨fun _ => N1.out, fun _ => rfl⟩, swk_eff S1.out⟩
end Go.Proofs.YtfliapankgdeeaaGreat.A
