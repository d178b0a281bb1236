/- slices.SortFunc at a row of fills that the call owns. -/
import Derived.Test.YtfliapankgdeeaaGreatEvI
namespace Go.Proofs.YtfliapankgdeeaaGreat.A
open Go.RowKit Go.Shelf Go.Lib Go.Sort Go.Proofs.YtfliapankgdeeaaGreatW.PrintWords Go.Proofs.YtfliapankgdeeaaGreatW.PrintLast Go.Proofs.YtfliapankgdeeaaGreatW.PrintMore Go.Proofs.YtfliapankgdeeaaGreat.G
set_option linter.unusedVariables false
set_option linter.unusedSimpArgs false

abbrev Fl := S42
/-- A fill, where its ids lie, and its number. -/
abbrev Fp := Fl × (Option Addr × Nat × Nat) × Nat
instance : Inhabited Fp := ⟨(z42, (none, 0, 0), 0)⟩
def encP (x : Fp) : List Value := [.int .i64 x.1.f0, .slice x.2.1.1 x.2.1.2.1 x.2.1.2.2]
theorem encP_two (x : Fp) : (encP x).length = 2 := rfl

theorem reps_tail {α : Type} {R : α → List Value → Prop} {size : Nat} {p : α} {ps : List α} {cs : List Value} (h : Reps R size (p :: ps) cs) : R p (cs.take size) ∧ Reps R size ps (cs.drop size) := by
  refine ⟨by simpa using h.2 0 p rfl, by rw [List.length_drop, h.1, List.length_cons, Nat.add_mul, Nat.one_mul, Nat.add_sub_cancel], fun j q hq => ?_⟩
  have := h.2 (j + 1) q (by simpa using hq)
  rwa [List.drop_drop, Nat.add_comm size, show j * size + size = (j + 1) * size by rw [Nat.add_mul, Nat.one_mul]]

theorem reps_pairs {w : World} {base : Nat} {ok : Nat → Prop} {f : Nat → Nat} : ∀ (fl : List (Fl × Nat)) (inner : List Value), Reps ((Kd.tag f k42).M w base ok) 2 fl inner → ∃ pl : List Fp, pl.map (fun p => (p.1, p.2.2)) = fl ∧ inner = pl.flatMap encP ∧ ∀ p ∈ pl, (Kd.int .i64).R 3 w base (fun k => ok k ∧ f k = p.2.2) (.slice p.2.1.1 p.2.1.2.1 p.2.1.2.2) p.1.f1
  | [], inner, h => ⟨[], rfl, by have := h.1; simp at this; simp [this], fun p hp => by cases hp⟩
  | x :: r, inner, h => by
    obtain ⟨h1, h2⟩ := reps_tail h
    obtain ⟨pl, e1, e2, h3⟩ := reps_pairs r _ h2
    obtain ⟨v1, e3, h4⟩ := k42_openM (w := w) (base := base) (ok := fun k => ok k ∧ f k = x.2) (x := x.1) h1
    obtain ⟨A, c, rfl⟩ := Kd.R_slice h4
    refine ⟨(x.1, (A, x.1.f1.length, c), x.2) :: pl, by simp [e1], ?_, fun p hp => ?_⟩
    · rw [← List.take_append_drop 2 inner, e2, e3]
      simp [encP]
    · rcases List.mem_cons.1 hp with rfl | hp
      · exact h4
      · exact h3 p hp

theorem pairs_reps {w : World} {base : Nat} {ok : Nat → Prop} {f f' : Nat → Nat} (pl : List Fp) (h : ∀ p ∈ pl, (Kd.int .i64).R 3 w base (fun k => ok k ∧ f k = p.2.2) (.slice p.2.1.1 p.2.1.2.1 p.2.1.2.2) p.1.f1) (hf : ∀ (j : Nat) (hj : j < pl.length) (k : Nat), f k = pl[j].2.2 → f' k = j) : Reps ((Kd.tag f' k42).M w base ok) 2 (pl.map (·.1)).zipIdx (pl.flatMap encP) := by
  refine ⟨by rw [fm_len encP_two, List.length_zipIdx, List.length_map], fun j p hj => ?_⟩
  rw [List.getElem?_zipIdx, List.getElem?_map, Nat.zero_add] at hj
  obtain ⟨q0, hq0, rfl⟩ := Option.map_eq_some_iff.1 hj
  obtain ⟨q, hq1, rfl⟩ := Option.map_eq_some_iff.1 hq0
  have hq : pl[j]? = some q := hq1
  obtain ⟨hl, e⟩ := List.getElem?_eq_some_iff.1 hq
  rw [fm_drop encP_two, List.drop_eq_getElem_cons hl, e, List.flatMap_cons, show (2 : Nat) = (encP q).length from rfl, List.take_left']
  · exact k42_mkM w base _ q.1 (Kd.R_mono (h q (e ▸ List.getElem_mem hl)) (fun k hk => ⟨hk.1, hf j hl k (by rw [e]; exact hk.2)⟩))
  · rfl

/-- The comparison of two fills by their buckets. -/
theorem Plan3_calls (x y : Fp) (w : World) : Calls Tryz.prog 25 #[.agg (encP x).toArray, .agg (encP y).toArray] w fun e w' => e = .returned (.int .i64 (if x.1.f0 < y.1.f0 then -1 else if x.1.f0 > y.1.f0 then 1 else 0)) ∧ ∃ q os', w' = grow (w.drewN q) os' := by
  have h3 := fun W => cmp_Compare_int.calls x.1.f0 y.1.f0 _ W (cmp_at _ _)
  generalize (if x.1.f0 < y.1.f0 then (-1 : Int) else if x.1.f0 > y.1.f0 then 1 else 0) = r at h3 ⊢
  show Calls Tryz.prog 25 #[.agg #[.int .i64 x.1.f0, .slice x.2.1.1 x.2.1.2.1 x.2.1.2.2], .agg #[.int .i64 y.1.f0, .slice y.2.1.1 y.2.1.2.1 y.2.1.2.2]] w _
  go_enter Tryz.func25, Tryz.ntmps25
  go_wp2_with fail
  refine (h3 _).mono ?_
  rintro e w1 ⟨rfl, ⟨n1, rfl⟩⟩
  go_wp2
  go_ret
  exact ⟨rfl, n1, _, by rw [alloc_eq_grow, alloc_eq_grow, grow_grow]; rfl⟩

def cfP (x y : Fp) : Int := if x.1.f0 < y.1.f0 then -1 else if x.1.f0 > y.1.f0 then 1 else 0
theorem ltP (x y : Fp) : ltOf cfP x y = decide (x.1.f0 < y.1.f0) := by unfold ltOf cfP; exact decide_eq_decide.2 cmpI_lt
theorem swoP : SWO (ltOf cfP) where
  irrefl x := by rw [ltP]; simp
  trans x y z h1 h2 := by rw [ltP] at *; simp at *; omega
  ntrans x y z h1 h2 := by rw [ltP] at *; simp at *; omega

theorem sortFill_calls {base : Nat} {ok : Nat → Prop} {w : World} {v : Value} {fl : List Fl} (hR : Kd.S k42 42 w base ok v fl) (hn : fl.length < 1000) :
    Calls Tryz.prog 24 #[v, .func (.func 25) #[] #[]] w fun e w' => e = .returned (.tuple #[]) ∧ ∃ fl' : List Fl, fl'.Perm fl ∧ fl'.Pairwise (fun a b => a.f0 ≤ b.f0) ∧ Kd.S k42 42 w' base ok v fl' ∧ Eff w w' (fun k => v.ownBlock = some k) := by
  obtain ⟨f, hok, inner, hown, hreps⟩ := hR
  obtain ⟨pl, e1, rfl, hin⟩ := reps_pairs fl.zipIdx inner hreps
  have efl : fl = pl.map (·.1) := by
    have : (pl.map fun p => (p.1, p.2.2)).map Prod.fst = fl.zipIdx.map Prod.fst := by rw [e1]
    rw [List.map_map, List.zipIdx_map_fst] at this
    exact this.symm
  have etag : (pl.map (·.2.2)).Nodup := by
    have : (pl.map fun p => (p.1, p.2.2)).map Prod.snd = fl.zipIdx.map Prod.snd := by rw [e1]
    rw [List.map_map, List.zipIdx_map_snd] at this
    have e2 : pl.map (·.2.2) = List.range' 0 fl.length := this
    rw [e2]
    exact List.nodup_range'
  rw [List.length_zipIdx] at hown
  rw [show fl.length = pl.length by rw [efl, List.length_map]] at hn hown
  have hown : Rw encP w base 42 v pl := hown
  by_cases h0 : 0 < pl.length
  · obtain ⟨g, c, rfl, hc, hg, hgw, _⟩ := hown.at_ h0
    have hcmp : CmpLays Tryz.prog 25 #[] encP 2 cfP g 0 pl.toArray.size w := fun m os dk hs x y => Plan3_calls x y _
    have hc := AnyQ.slices_SortFunc Tryz.sortFill 2 Tryz.isAgg42 Tryz.sizeOf42 encP encP_two (fun x v hv => by simp [encP] at hv; rcases hv with rfl | rfl <;> rfl) cfP swoP 25 #[] g 0 c pl.toArray w (enters_of Tryz.func25 (by kernel_rfl) rfl) hcmp (hown.holdsK encP_two) hgw (by simp; omega)
    change Calls Tryz.prog 24 _ _ _ at hc
    rw [show pl.toArray.size = pl.length by simp] at hc
    refine hc.mono ?_
    rintro e w' ⟨rfl, d', n, os, hp, hs, rfl⟩
    have hd : d'.size = pl.length := by rw [hp.1]; simp
    obtain ⟨h1, h2⟩ := hown.sorted encP_two d' hd n os
    have hperm : d'.toList.Perm pl := by simpa using perm_of (by simp) hp
    have htag : (d'.toList.map (·.2.2)).Nodup := (hperm.map _).nodup_iff.2 etag
    refine ⟨rfl, d'.toList.map (·.1), by rw [efl]; exact hperm.map _, ?_, ⟨fun k => d'.toList.findIdx (fun p => p.2.2 == f k), hok, _, ?_, pairs_reps (f := f) d'.toList ?_ ?_⟩, h2.mono (fun q hq => by simp [Value.ownBlock, hq])⟩
    · rw [List.pairwise_map, List.pairwise_iff_getElem]
      intro i j hi hj hij
      have hi' : i < d'.size := by simpa using hi
      have hj' : j < d'.size := by simpa using hj
      have := hs i j (Nat.zero_le _) hij (by omega)
      rw [ltP, getElem!_pos d' i hi', getElem!_pos d' j hj'] at this
      simp only [Array.getElem_toList]
      have := of_decide_eq_false this
      omega
    · rw [List.length_zipIdx, List.length_map]
      have hlen : d'.toList.length = pl.length := by simpa using hd
      exact h1
    · intro p hp2
      exact Kd.R_step (hin p (hperm.mem_iff.1 hp2)) (fun q hq hl => h2.kept.2 q hl (fun e => hq.1.2 (by rw [e]; rfl)))
    · intro j hj k hk
      show d'.toList.findIdx (fun p => p.2.2 == f k) = j
      rw [List.findIdx_eq hj]
      refine ⟨by rw [hk]; simp, fun i hi => ?_⟩
      rw [hk]
      rw [List.Nodup, List.pairwise_iff_getElem] at htag
      have := htag i j (by rw [List.length_map]; omega) (by rw [List.length_map]; exact hj) hi
      simp only [List.getElem_map] at this
      exact beq_eq_false_iff_ne.2 this
  · obtain rfl : pl = [] := List.eq_nil_of_length_eq_zero (by omega)
    obtain rfl : fl = [] := efl
    obtain ⟨A, c, rfl, _⟩ := hown.slice
    have hc := AnyF.slices_SortFunc_none (P := Tryz.prog) { Tryz.sortFill with } A c (.func (.func 25) #[] #[]) w
    refine hc.mono ?_
    rintro e w' ⟨rfl, rfl⟩
    exact ⟨rfl, [], List.Perm.refl _, List.Pairwise.nil, ⟨f, hok, _, hown, hreps⟩, Eff.refl _ _⟩
end Go.Proofs.YtfliapankgdeeaaGreat.A
