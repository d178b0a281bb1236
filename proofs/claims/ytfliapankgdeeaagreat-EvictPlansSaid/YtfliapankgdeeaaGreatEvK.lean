/- What evict.Plan answers, as a plain function. -/
import Derived.Test.YtfliapankgdeeaaGreatEvJ
namespace Go.Proofs.YtfliapankgdeeaaGreat.A
open Go.RowKit Go.Shelf Go.Lib Go.Sort Go.Proofs.YtfliapankgdeeaaGreatW.PrintWords Go.Proofs.YtfliapankgdeeaaGreatW.PrintLast Go.Proofs.YtfliapankgdeeaaGreatW.PrintMore Go.Proofs.YtfliapankgdeeaaGreat.G
set_option linter.unusedVariables false
set_option linter.unusedSimpArgs false

/-- Lies this item's path through the bucket? -/
def onB (h b : Int) (x : It) : Bool := decide (b ∈ B.path h x.f1)
/-- The buckets filled, one behind the other; who is left. -/
def runB (z h : Int) : List Int → List It → List Fl × List It
  | [], left => ([], left)
  | b :: bs, left => (⟨b, (tk z (onB h b) [] left).1⟩ :: (runB z h bs (tk z (onB h b) [] left).2).1, (runB z h bs (tk z (onB h b) [] left).2).2)
theorem runB_snoc (z h b : Int) : ∀ (bs : List Int) (left : List It), runB z h (bs ++ [b]) left = ((runB z h bs left).1 ++ [⟨b, (tk z (onB h b) [] (runB z h bs left).2).1⟩], (tk z (onB h b) [] (runB z h bs left).2).2)
  | [], left => rfl
  | c :: bs, left => by
    rw [List.cons_append, runB, runB_snoc z h b bs]
    rfl
theorem runB_keys (z h : Int) : ∀ (bs : List Int) (left : List It), (runB z h bs left).1.map (·.f0) = bs
  | [], left => rfl
  | c :: bs, left => by rw [runB, List.map_cons, runB_keys z h bs]
theorem runB_len (z h : Int) : ∀ (bs : List Int) (left : List It), (runB z h bs left).2.length ≤ left.length
  | [], left => Nat.le_refl _
  | c :: bs, left => by
    rw [runB]
    have := tk_len z (onB h c) left []
    simp only [List.length_nil] at this
    exact Nat.le_trans (runB_len z h bs _) (by omega)

def srt (l : List It) : List It := l.mergeSort fun a b => decide (a.f0 ≤ b.f0)
def srtF (l : List Fl) : List Fl := l.mergeSort fun a b => decide (a.f0 ≤ b.f0)
/-- What evict.Plan answers. -/
def planP (h z : Int) (ls : List Int) (items : List It) : List Fl × List Int :=
  if okPlan h z ls items = true then (srtF (runB z h (ordB (B.unionOf h ls)) (srt items)).1, (runB z h (ordB (B.unionOf h ls)) (srt items)).2.map (·.f0)) else ([], [])

theorem perm_eq {α : Type} {r : α → α → Prop} (has : ∀ a b, r a b → ¬ r b a) : ∀ (l m : List α), l.Perm m → l.Pairwise r → m.Pairwise r → l = m
  | [], m, h, _, _ => h.symm.eq_nil.symm
  | a :: l, [], h, _, _ => h.eq_nil
  | a :: l, b :: m, h, hl, hm => by
    rw [List.pairwise_cons] at hl hm
    have hab : a = b := by
      have h1 : a ∈ b :: m := h.mem_iff.1 List.mem_cons_self
      have h2 : b ∈ a :: l := h.mem_iff.2 List.mem_cons_self
      rcases List.mem_cons.1 h1 with e | h1
      · exact e
      · rcases List.mem_cons.1 h2 with e | h2
        · exact e.symm
        · exact absurd (hl.1 b h2) (has b a (hm.1 a h1))
    subst hab
    rw [perm_eq has l m (List.Perm.cons_inv h) hl.2 hm.2]

theorem strict_of {α : Type} (f : α → Int) {l : List α} (h : l.Pairwise fun a b => f a ≤ f b) (hn : (l.map f).Nodup) : l.Pairwise fun a b => f a < f b := by
  rw [List.Nodup, List.pairwise_map] at hn
  exact (h.and hn).imp (fun ⟨h1, h2⟩ => by omega)
theorem merge_strict {α : Type} (f : α → Int) (l : List α) (hn : (l.map f).Nodup) : (l.mergeSort fun a b => decide (f a ≤ f b)).Pairwise fun a b => f a < f b := by
  refine strict_of f ?_ (((List.mergeSort_perm l _).map f).nodup_iff.2 hn)
  have := List.pairwise_mergeSort (le := fun a b => decide (f a ≤ f b)) (fun a b c h1 h2 => by simp at *; omega) (fun a b => by simp; omega) l
  exact this.imp (fun h => by simpa using h)
theorem sort_unique {α : Type} (f : α → Int) {l m : List α} (h : m.Perm l) (hs : m.Pairwise fun a b => f a ≤ f b) (hn : (l.map f).Nodup) : m = l.mergeSort fun a b => decide (f a ≤ f b) :=
  perm_eq (r := fun a b => f a < f b) (fun a b h => by omega) _ _ (h.trans (List.mergeSort_perm l _).symm) (strict_of f hs ((h.map f).nodup_iff.2 hn)) (merge_strict f l hn)

theorem ordB_perm (u : List Int) : (ordB u).Perm u := List.mergeSort_perm _ _
theorem union_strict (h : Int) (l : List Int) : (B.unionOf h l).Pairwise (· < ·) := by
  unfold B.unionOf
  split
  · exact (B.range_strict _).filter _
  · exact List.Pairwise.nil
theorem union_in {h x : Int} {l : List Int} (hx : x ∈ B.unionOf h l) : 0 ≤ x ∧ x < 127 := by
  unfold B.unionOf at hx
  split at hx
  · have h1 := (List.mem_filter.1 hx).1
    obtain ⟨n, hn, rfl⟩ := List.mem_map.1 h1
    have := List.mem_range.1 hn
    have := B.buckets_le h
    simp only [Int.ofNat_eq_natCast]
    omega
  · cases hx
theorem on_at (h b : Int) (x : It) : tree_On.f 30 h b x.f1 = some (onB h b x) := B.on_any h b x.f1 30 (Nat.le_refl _)

variable {fb zb hb bb base base1 : Nat} {z h b : Int} {w : World} {l : List It}

/-- slices.DeleteFunc, whatever is left. -/
theorem Delete_any {v : Value} (hR : Rw encI w base1 35 v l) (hv : ∀ q, v.ownBlock = some q → q < fb ∧ q ≠ zb ∧ q ≠ hb ∧ q ≠ bb) (st : FS fb b w base []) (hbase : base ≤ w.heap.size) (hl : l.length < 1000) (E : Env fb zb hb bb z h b w) (hfw : fb < w.heap.size) :
    Calls Tryz.prog 21 #[v, .func (.func 22) #[] #[.pointer (some ⟨fb, 0, none⟩), .pointer (some ⟨zb, 0, none⟩), .pointer (some ⟨hb, 0, none⟩), .pointer (some ⟨bb, 0, none⟩)]] w fun e w' =>
      ∃ v', e = .returned v' ∧ v'.ownBlock = v.ownBlock ∧ Rw encI w' base1 35 v' (tk z (onB h b) [] l).2 ∧ FS fb b w' base (tk z (onB h b) [] l).1 ∧ Eff w w' (fun k => v.ownBlock = some k ∨ fb ≤ k) := by
  by_cases h0 : 0 < l.length
  · obtain ⟨g, c, rfl, hc, hg, hgw, _⟩ := hR.at_ h0
    obtain ⟨h1, h2⟩ := hv g rfl
    refine (DeleteFunc_calls hR h1 h2 st hbase (by simpa using hl) E (on_at h b) hc hfw).mono ?_
    rintro e w' ⟨rfl, h3, h4, h5⟩
    exact ⟨_, rfl, rfl, h3, h4, h5.mono (fun q hq => hq.imp (fun e => by rw [e]; rfl) id)⟩
  · obtain rfl : l = [] := List.eq_nil_of_length_eq_zero (by omega)
    obtain ⟨A, c, rfl, _⟩ := hR.slice
    refine (DeleteFunc_none A c _ w).mono ?_
    rintro e w' ⟨rfl, rfl⟩
    exact ⟨_, rfl, rfl, hR, st, Eff.refl _ _⟩
end Go.Proofs.YtfliapankgdeeaaGreat.A
