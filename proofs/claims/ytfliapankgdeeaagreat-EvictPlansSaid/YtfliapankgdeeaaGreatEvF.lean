/- The library's sort at structs of two cells that a call owns: slices.SortFunc at []Item and at []Fill. -/
import Derived.Test.YtfliapankgdeeaaGreatEvE
namespace Go.Proofs.YtfliapankgdeeaaGreat.A
open Go.RowKit Go.Shelf Go.Lib Go.Sort Go.Proofs.YtfliapankgdeeaaGreatW.PrintWords Go.Proofs.YtfliapankgdeeaaGreatW.PrintLast Go.Proofs.YtfliapankgdeeaaGreatW.PrintMore Go.Proofs.YtfliapankgdeeaaGreat.G
set_option linter.unusedVariables false
set_option linter.unusedSimpArgs false

section
variable {α : Type} [Inhabited α] {enc : α → List Value} {w : World} {base e g n cap : Nat} {l : List α}

theorem flat_list (hk : ∀ x, (enc x).length = 2) (d : Array α) : (flatK enc 2 d).toList = d.toList.flatMap enc := by
  apply List.ext_getElem?
  intro t
  by_cases ht : t < d.size * 2
  · have h1 : t / 2 < d.toList.length := by simp; omega
    have e1 := fm_get hk d.toList (t / 2) (t % 2) h1 (by omega)
    rw [show t / 2 * 2 + t % 2 = t by omega] at e1
    rw [e1, Array.getElem?_toList, Array.getElem?_eq_getElem (by simpa using ht)]
    have e2 := get_flatK enc 2 d t ht
    rw [getElem!_pos _ t (by simpa using ht)] at e2
    rw [e2, getElem!_pos d (t / 2) (by omega)]
    have h2 : t % 2 < (enc d[t / 2]).length := by rw [hk]; omega
    rw [getElem!_pos (enc d[t / 2]) (t % 2) h2]
    simp [List.getElem?_eq_getElem h2]
  · rw [List.getElem?_eq_none (by simp; omega), List.getElem?_eq_none (by rw [fm_len hk]; simp; omega)]

theorem Rw.holdsK (hk : ∀ x, (enc x).length = 2) (h : Rw enc w base e (.slice (some ⟨g, 0, none⟩) l.length cap) l) : HoldsK enc 2 w g 0 l.toArray := by
  intro t ht
  have ht' : t < l.length * 2 := by simpa using ht
  have h1 : t / 2 < l.length := by omega
  refine ⟨?_, by rw [Nat.zero_add]; exact h.frozen t⟩
  have e1 := h.cell hk (t / 2) h1 (t % 2) (by omega)
  rw [show t / 2 * 2 + t % 2 = t by omega] at e1
  rw [Nat.zero_add, e1, get_flatK enc 2 _ t (by simpa using ht'), getElem!_pos l.toArray (t / 2) (by simpa using h1)]
  have h2 : t % 2 < (enc l[t / 2]).length := by rw [hk]; omega
  have h3 := getElem!_pos (enc l[t / 2]) (t % 2) h2
  rw [List.getElem?_eq_getElem h2, ← h3]
  simp

theorem take_putF (cur F : Array Value) (h : F.size ≤ cur.size) : (putCells id 0 F cur).toList.take F.size = F.toList := by
  apply List.ext_getElem?
  intro j
  by_cases hj : j < F.size
  · rw [List.getElem?_take_of_lt hj, Array.getElem?_toList]
    simp [putCells, hj, show j < cur.size by omega]
  · rw [List.getElem?_take_eq_none (by omega), List.getElem?_eq_none (by simp; omega)]

theorem Rw.sorted (hk : ∀ x, (enc x).length = 2) (h : Rw enc w base e (.slice (some ⟨g, 0, none⟩) l.length cap) l) (d : Array α) (hd : d.size = l.length) (m : Nat) (os : Array Obj) :
    Rw enc (sortWorldK enc 2 w g 0 m d os) base e (.slice (some ⟨g, 0, none⟩) l.length cap) d.toList ∧ Eff w (sortWorldK enc 2 w g 0 m d os) (fun k => k = g) := by
  rcases h.2 with ⟨h1, _⟩ | ⟨g', cap', cur, hv, hg, hh, h1, h2, h3, h4⟩
  · cases h1
  · cases hv
    have hgl : g < w.heap.size := (Array.getElem?_eq_some_iff.1 hh).1
    have hb : (sortWorldK enc 2 w g 0 m d os).heap[g]? = some (.cells (putCells id 0 (flatK enc 2 d) cur) e (0, 0)) := by
      unfold sortWorldK
      rw [heap_grow_old _ _ (by rw [size_putRowK]; exact hgl)]
      simp [putRowK, putRow, mapBlock, Sort.ahead, Array.getElem?_modify, hh, onCells]
    have hl : d.toList.length = l.length := by simpa using hd
    refine ⟨⟨by rw [fm_len hk], .inr ⟨g, cap, _, by rw [hl], hg, hb, by rw [hl]; exact h1, h2, by simp [putCells, h3], ?_⟩⟩, ⟨rfl, rfl, rfl, ?_⟩⟩
    · rw [← flat_list hk, ← take_putF cur (flatK enc 2 d) (by simp; omega)]
      congr 1
      simp
    · refine ⟨size_sortWorldK_c enc 2 w g 0 m d os, fun q hq hne => ?_⟩
      unfold sortWorldK
      rw [heap_grow_old _ _ (by rw [size_putRowK]; exact hq)]
      have : g ≠ q := fun e => hne e.symm
      simp [putRowK, putRow, mapBlock, Sort.ahead, Array.getElem?_modify, this]

theorem perm_of {d d' : Array α} {n : Nat} (hn : d.size = n) (h : PermIn 0 n d d') : d'.toList.Perm d.toList := by
  have hs := h.1
  have := h.2.2
  subst hn
  rw [show d'.extract 0 d.size = d' by rw [← hs]; simp] at this
  simpa using this
end

theorem cmpI_lt {x y : Int} : (if x < y then (-1 : Int) else if x > y then 1 else 0) < 0 ↔ x < y := by
  by_cases h1 : x < y
  · simp [h1]
  · by_cases h2 : y < x <;> simp [h1, h2]

/-- The comparison of two items by their ids. -/
theorem sorted1_calls (x y : It) (w : World) : Calls Tryz.prog 36 #[.agg (encI x).toArray, .agg (encI y).toArray] w fun e w' => e = .returned (.int .i64 (if x.f0 < y.f0 then -1 else if x.f0 > y.f0 then 1 else 0)) ∧ ∃ q os', w' = grow (w.drewN q) os' := by
  have h3 := fun W => cmp_Compare_int.calls x.f0 y.f0 _ W (cmp_at _ _)
  generalize (if x.f0 < y.f0 then (-1 : Int) else if x.f0 > y.f0 then 1 else 0) = r at h3 ⊢
  show Calls Tryz.prog 36 #[.agg #[.int .i64 x.f0, .int .i64 x.f1], .agg #[.int .i64 y.f0, .int .i64 y.f1]] w _
  go_enter Tryz.func36, Tryz.ntmps36
  go_wp2_with fail
  refine (h3 _).mono ?_
  rintro e w1 ⟨rfl, ⟨n1, rfl⟩⟩
  go_wp2
  go_ret
  exact ⟨rfl, n1, _, by rw [alloc_eq_grow, alloc_eq_grow, grow_grow]; rfl⟩

def cfI (x y : It) : Int := if x.f0 < y.f0 then -1 else if x.f0 > y.f0 then 1 else 0
theorem ltI (x y : It) : ltOf cfI x y = decide (x.f0 < y.f0) := by unfold ltOf cfI; exact decide_eq_decide.2 cmpI_lt
theorem swoI : SWO (ltOf cfI) where
  irrefl x := by rw [ltI]; simp
  trans x y z h1 h2 := by rw [ltI] at *; simp at *; omega
  ntrans x y z h1 h2 := by rw [ltI] at *; simp at *; omega

theorem sortItem_calls {base : Nat} {w : World} {v : Value} {l : List It} (hR : Rw encI w base 35 v l) (hn : l.length < 4611686018427387904) :
    Calls Tryz.prog 35 #[v, .func (.func 36) #[] #[]] w fun e w' => e = .returned (.tuple #[]) ∧ ∃ l' : List It, l'.Perm l ∧ l'.Pairwise (fun a b => a.f0 ≤ b.f0) ∧ Rw encI w' base 35 v l' ∧ Eff w w' (fun k => v.ownBlock = some k) := by
  by_cases h0 : 0 < l.length
  · obtain ⟨g, c, rfl, hc, hg, hgw, _⟩ := hR.at_ h0
    have hcmp : CmpLays Tryz.prog 36 #[] encI 2 cfI g 0 l.toArray.size w := fun m os dk hs x y => sorted1_calls x y _
    have hc := AnyQ.slices_SortFunc Tryz.sortItem 2 Tryz.isAgg35 Tryz.sizeOf35 encI encI_two (fun x v hv => by simp [encI] at hv; rcases hv with rfl | rfl <;> rfl) cfI swoI 36 #[] g 0 c l.toArray w (enters_of Tryz.func36 (by kernel_rfl) rfl) hcmp (hR.holdsK encI_two) hgw (by simpa using hn)
    change Calls Tryz.prog 35 _ _ _ at hc
    rw [show l.toArray.size = l.length by simp] at hc
    refine hc.mono ?_
    rintro e w' ⟨rfl, d', n, os, hp, hs, rfl⟩
    have hd : d'.size = l.length := by rw [hp.1]; simp
    obtain ⟨h1, h2⟩ := hR.sorted encI_two d' hd n os
    refine ⟨rfl, d'.toList, by simpa using perm_of (by simp) hp, ?_, ?_, h2.mono (fun q hq => by simp [Value.ownBlock, hq])⟩
    · rw [List.pairwise_iff_getElem]
      intro i j hi hj hij
      have hi' : i < d'.size := by simpa using hi
      have hj' : j < d'.size := by simpa using hj
      have := hs i j (Nat.zero_le _) hij (by omega)
      rw [ltI, getElem!_pos d' i hi', getElem!_pos d' j hj'] at this
      simp only [Array.getElem_toList]
      have := of_decide_eq_false this
      omega
    · have hlen : d'.toList.length = l.length := by simpa using hd
      exact h1
  · obtain rfl : l = [] := List.eq_nil_of_length_eq_zero (by omega)
    obtain ⟨A, c, rfl, _⟩ := hR.slice
    have hc := AnyF.slices_SortFunc_none (P := Tryz.prog) { Tryz.sortItem with } A c (.func (.func 36) #[] #[]) w
    refine hc.mono ?_
    rintro e w' ⟨rfl, rfl⟩
    exact ⟨rfl, [], List.Perm.refl _, List.Pairwise.nil, hR, Eff.refl _ _⟩
end Go.Proofs.YtfliapankgdeeaaGreat.A
