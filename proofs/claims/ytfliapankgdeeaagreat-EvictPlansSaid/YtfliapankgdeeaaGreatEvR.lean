/- Rows of structs of two cells that a call owns: element stores, cuts, the library's sort. -/
import Derived.Test.YtfliapankgdeeaaGreatEvP
import Derived.Shelf.SlSortCmp.NoneTotal
namespace Go.Proofs.YtfliapankgdeeaaGreat.A
open Go.RowKit Go.Shelf Go.Lib Go.Sort Go.Proofs.YtfliapankgdeeaaGreatW.PrintWords Go.Proofs.YtfliapankgdeeaaGreatW.PrintLast Go.Proofs.YtfliapankgdeeaaGreatW.PrintMore Go.Proofs.YtfliapankgdeeaaGreat.G
set_option linter.unusedVariables false
set_option linter.unusedSimpArgs false

section
variable {α : Type} {enc : α → List Value} (hk : ∀ x, (enc x).length = 2)
include hk

theorem fm_len (l : List α) : (l.flatMap enc).length = l.length * 2 := by
  induction l with
  | nil => simp
  | cons x r ih => rw [List.flatMap_cons, List.length_append, hk, ih, List.length_cons]; omega
theorem fm_drop : ∀ (l : List α) (j : Nat), (l.flatMap enc).drop (j * 2) = (l.drop j).flatMap enc
  | [], j => by simp
  | x :: r, 0 => by simp
  | x :: r, j + 1 => by
    rw [List.flatMap_cons, List.drop_succ_cons, ← fm_drop r j, show (j + 1) * 2 = (enc x).length + j * 2 by rw [hk]; omega, ← List.drop_drop, List.drop_left']
    rfl
theorem fm_take : ∀ (l : List α) (j : Nat), (l.flatMap enc).take (j * 2) = (l.take j).flatMap enc
  | [], j => by simp
  | x :: r, 0 => by simp
  | x :: r, j + 1 => by
    rw [List.flatMap_cons, List.take_succ_cons, List.flatMap_cons, ← fm_take r j, show (j + 1) * 2 = (enc x).length + j * 2 by rw [hk]; omega, List.take_length_add_append]
theorem fm_get (l : List α) (i c : Nat) (hi : i < l.length) (hc : c < 2) : (l.flatMap enc)[i * 2 + c]? = (enc l[i])[c]? := by
  rw [← List.getElem?_drop, fm_drop hk, List.drop_eq_getElem_cons hi, List.flatMap_cons, List.getElem?_append_left (by rw [hk]; exact hc)]
end

theorem fm_set2 {α : Type} {enc : α → List Value} {a b : Value} {x : α} (hk : ∀ x, (enc x).length = 2) (hx : enc x = [a, b]) : ∀ (l : List α) (i : Nat), i < l.length → ((l.flatMap enc).set (i * 2) a).set (i * 2 + 1) b = (l.set i x).flatMap enc
  | [], i, h => by simp at h
  | y :: r, 0, _ => by
    obtain ⟨c, d, hy⟩ : ∃ c d, enc y = [c, d] := by
      have := hk y
      match h : enc y, this with
      | [c, d], _ => exact ⟨c, d, rfl⟩
    simp [List.flatMap_cons, hy, hx]
  | y :: r, i + 1, h => by
    have ih := fm_set2 hk hx r i (by simpa using h)
    obtain ⟨c, d, hy⟩ : ∃ c d, enc y = [c, d] := by
      have := hk y
      match h : enc y, this with
      | [c, d], _ => exact ⟨c, d, rfl⟩
    rw [List.flatMap_cons, hy, List.set_cons_succ, List.flatMap_cons, hy, ← ih, show (i + 1) * 2 = i * 2 + 1 + 1 by omega]
    simp

theorem blk_sets {w : World} {g e : Nat} : ∀ (vs : List Value) (o : Nat) (cur : Array Value) (w : World), w.heap[g]? = some (.cells cur e (0, 0)) → (w.setCells g o vs).heap[g]? = some (.cells (setMany cur o vs) e (0, 0))
  | [], o, cur, w, h => h
  | v :: r, o, cur, w, h => by
    rw [World.setCells, setMany]
    exact blk_sets (w := w) r (o + 1) _ _ (blk_set h o v)
theorem take_setMany : ∀ (vs : List Value) (o m : Nat) (cur : Array Value), m ≤ o → (setMany cur o vs).toList.take m = cur.toList.take m
  | [], o, m, cur, h => rfl
  | v :: r, o, m, cur, h => by
    rw [setMany, take_setMany r (o + 1) m _ (by omega), Array.toList_setIfInBounds, List.take_set, List.set_eq_of_length_le (by rw [List.length_take]; omega)]

section
variable {α : Type} {enc : α → List Value} {w : World} {base e g n cap : Nat} {l : List α}

/-- A row that the call owns, of structs of two cells. -/
def Rw (enc : α → List Value) (w : World) (base e : Nat) (v : Value) (l : List α) : Prop := w.ownsRow base e 2 v l.length (l.flatMap enc)

theorem Rw.slice {v : Value} (h : Rw enc w base e v l) : ∃ A c, v = .slice A l.length c ∧ l.length ≤ c := by
  obtain ⟨A, c, rfl⟩ := own_slice h
  exact ⟨A, c, rfl, own_le h⟩
theorem Rw.at_ {v : Value} (h : Rw enc w base e v l) (h0 : 0 < l.length) : ∃ g c, v = .slice (some ⟨g, 0, none⟩) l.length c ∧ l.length ≤ c ∧ base ≤ g ∧ g < w.heap.size ∧ l.length ≤ 9223372036854775807 := by
  rcases h.2 with ⟨_, hn⟩ | ⟨g, cap, cur, rfl, hg, hh, h1, h2, _⟩
  · omega
  · exact ⟨g, cap, rfl, h1, hg, (Array.getElem?_eq_some_iff.1 hh).1, Nat.le_trans h1 h2⟩
theorem Rw.cell (hk : ∀ x, (enc x).length = 2) (h : Rw enc w base e (.slice (some ⟨g, 0, none⟩) l.length cap) l) (i : Nat) (hi : i < l.length) (c : Nat) (hc : c < 2) : w.cell? ⟨g, i * 2 + c, none⟩ = (enc l[i])[c]? := by
  rcases h.2 with ⟨h1, _⟩ | ⟨g', cap', cur, hv, hg, hh, h1, h2, h3, h4⟩
  · cases h1
  · cases hv
    rw [← fm_get hk l i c hi hc, ← h4]
    simp only [World.cell?, hh]
    rw [List.getElem?_take_of_lt (by omega)]
    simp
theorem Rw.frozen (h : Rw enc w base e (.slice (some ⟨g, 0, none⟩) l.length cap) l) (o : Nat) : w.frozen? ⟨g, o, none⟩ = false := by
  rcases h.2 with ⟨h1, _⟩ | ⟨g', cap', cur, hv, hg, hh, h1, h2, h3, h4⟩
  · cases h1
  · cases hv
    exact blk_frozen hh o
theorem Rw.moved {w1 : World} {v : Value} (h : Rw enc w base e v l) (hm : ∀ k, v.ownBlock = some k → w1.heap[k]? = w.heap[k]?) : Rw enc w1 base e v l := own_move h hm
theorem Rw.eff {w1 : World} {v : Value} {S : Nat → Prop} (h : Rw enc w base e v l) (k : Eff w w1 S) (hS : ∀ q, v.ownBlock = some q → ¬ S q) : Rw enc w1 base e v l := own_move h (fun q hq => k.kept.2 q (own_lt h q hq) (hS q hq))
theorem Rw.set (hk : ∀ x, (enc x).length = 2) (h : Rw enc w base e (.slice (some ⟨g, 0, none⟩) l.length cap) l) (i : Nat) (hi : i < l.length) {x : α} {a b : Value} (hx : enc x = [a, b]) :
    Rw enc ((w.setCell ⟨g, i * 2, none⟩ a).setCell ⟨g, i * 2 + 1, none⟩ b) base e (.slice (some ⟨g, 0, none⟩) l.length cap) (l.set i x) := by
  rcases h.2 with ⟨h1, _⟩ | ⟨g', cap', cur, hv, hg, hh, h1, h2, h3, h4⟩
  · cases h1
  · cases hv
    have hh2 := blk_set (blk_set hh (i * 2) a) (i * 2 + 1) b
    refine ⟨by rw [fm_len hk], .inr ⟨g, cap, _, by rw [List.length_set], hg, hh2, by rw [List.length_set]; exact h1, h2, by simpa using h3, ?_⟩⟩
    rw [List.length_set, Array.toList_setIfInBounds, Array.toList_setIfInBounds, List.take_set, List.take_set, h4, fm_set2 hk hx l i hi]
theorem Rw.cut (hk : ∀ x, (enc x).length = 2) (h : Rw enc w base e (.slice (some ⟨g, 0, none⟩) l.length cap) l) (i : Nat) (hi : i ≤ l.length) : Rw enc w base e (.slice (some ⟨g, 0, none⟩) i cap) (l.take i) := by
  rcases h.2 with ⟨h1, _⟩ | ⟨g', cap', cur, hv, hg, hh, h1, h2, h3, h4⟩
  · cases h1
  · cases hv
    have hl : (l.take i).length = i := by rw [List.length_take]; omega
    refine ⟨by rw [fm_len hk], .inr ⟨g, cap, cur, by rw [hl], hg, hh, by omega, h2, h3, ?_⟩⟩
    rw [hl, ← fm_take hk, ← h4, List.take_take, Nat.min_eq_left (by omega)]
theorem Rw.wiped (hk : ∀ x, (enc x).length = 2) (h : Rw enc w base e (.slice (some ⟨g, 0, none⟩) l.length cap) l) (i : Nat) (hi : i ≤ l.length) (vs : List Value) : Rw enc (w.setCells g (i * 2) vs) base e (.slice (some ⟨g, 0, none⟩) i cap) (l.take i) := by
  rcases h.2 with ⟨h1, _⟩ | ⟨g', cap', cur, hv, hg, hh, h1, h2, h3, h4⟩
  · cases h1
  · cases hv
    have hl : (l.take i).length = i := by rw [List.length_take]; omega
    refine ⟨by rw [fm_len hk], .inr ⟨g, cap, _, by rw [hl], hg, blk_sets (w := w) vs (i * 2) cur w hh, by omega, h2, by rw [size_setMany]; exact h3, ?_⟩⟩
    rw [hl, take_setMany _ _ _ _ (Nat.le_refl _), ← fm_take hk, ← h4, List.take_take, Nat.min_eq_left (by omega)]
end

theorem eff_sets {S : Nat → Prop} {g : Nat} (hg : S g) : ∀ (vs : List Value) (o : Nat) (w w1 : World), Eff w w1 S → Eff w (w1.setCells g o vs) S
  | [], _, _, _, h => h
  | v :: r, o, w, w1, h => eff_sets hg r (o + 1) w _ (h.setCell (.inl hg) v)
end Go.Proofs.YtfliapankgdeeaaGreat.A
