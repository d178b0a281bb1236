/- The stash in memory: a struct of two cells, a map, rows of bytes; and the methods that only look. -/
import Derived.Test.YtmjbmbhpfckagaaMap
import Derived.Test.YtmjbmbhpfckagaaWMore
import Derived.Test.YtmjbmbhpfckagaaWKept
import Derived.Test.YtmjbmbhpfckagaaProg
import Derived.WalkLawsBesides
import Derived.Outline
namespace Go.Proofs.Ytmjbmbhpfckagaa.A
open Go.RowKit Go.Maps Go.Proofs.YtmjbmbhpfckagaaW.PrintWords
set_option linter.unusedVariables false
set_option linter.unusedSimpArgs false

/-- A row of bytes as a value: not nil, its block among those of Rs, its bytes xs. -/
def Row (w : World) (Rs : Nat → Prop) (v : Value) (xs : List Int) : Prop :=
  ∃ a o c, v = .slice (some ⟨a, o, none⟩) xs.length c ∧ xs.length ≤ c ∧ c ≤ maxLen ∧ Rs a ∧ a < w.heap.size ∧ Kd.C (Kd.int .u8) w (some ⟨a, o, none⟩) xs.length xs
theorem add_block (a : Addr) (j : Nat) : (a.add j).block = a.block := by unfold Addr.add; split <;> rfl
theorem Row.step {w w1 : World} {Rs : Nat → Prop} {v : Value} {xs : List Int} (h : Row w Rs v xs) (hs : w.heap.size ≤ w1.heap.size) (hb : ∀ k, Rs k → k < w.heap.size → w1.heap[k]? = w.heap[k]?) : Row w1 Rs v xs := by
  obtain ⟨a, o, c, rfl, h1, h2, h3, h4, h5⟩ := h
  refine ⟨a, o, c, rfl, h1, h2, h3, by omega, ?_⟩
  have := hb a h3 h4
  refine Kd.C_of_reads (d := (0 : Int)) ?_
  obtain ⟨e1, e2, e3⟩ := Kd.reads_of_C (d := (0 : Int)) h5
  refine ⟨e1, e2, fun h0 => ?_⟩
  obtain ⟨ad, he, hc⟩ := e3 h0
  cases he
  exact ⟨_, rfl, fun j hj => (World.cell?_of_block (by rw [add_block]; exact this)).trans (hc j hj)⟩
theorem Row.mono {w : World} {Rs Rs' : Nat → Prop} {v : Value} {xs : List Int} (h : Row w Rs v xs) (hs : ∀ k, Rs k → Rs' k) : Row w Rs' v xs := by
  obtain ⟨a, o, c, h0, h1, h2, h3, h4, h5⟩ := h
  exact ⟨a, o, c, h0, h1, h2, hs _ h3, h4, h5⟩

/-- THE STASH at block g: its map lies at bm, its rows among Rs; by rising key E (key, value, bytes); there were m at most. -/
structure St (w : World) (g bm : Nat) (Rs : Nat → Prop) (E : List (Int × (Value × List Int))) (m : Int) : Prop where
  cells : w.heap[g]? = some (.cells #[.map (some bm), .int .i64 m] 66 (0, 0))
  map : ∃ n, w.ownsMap Try.prog 3 tok bm n (dat (E.map fun p => (p.1, p.2.1)))
  up : Up E
  keys : ∀ p ∈ E, 0 ≤ p.1 ∧ p.1 < 64
  rows : ∀ p ∈ E, Row w Rs p.2.1 p.2.2
  len : ∀ p ∈ E, p.2.2.length = 37
  apart : ¬ Rs g ∧ ¬ Rs bm
  low : ∀ k, Rs k → k < w.heap.size
  wf : 0 ≤ m ∧ m ≤ 64

theorem up_length {α : Type} : ∀ {l : List (Int × α)} {a : Int}, Up l → (∀ p ∈ l, a ≤ p.1 ∧ p.1 < 64) → (l.length : Int) ≤ max (64 - a) 0
  | [], a, _, _ => by simp only [List.length_nil]; omega
  | p :: r, a, h, hb => by
    obtain ⟨h1, h2⟩ := List.pairwise_cons.1 h
    have hp := hb p List.mem_cons_self
    have ih := up_length (a := p.1 + 1) h2 (fun q hq => ⟨by have : p.1 < q.1 := h1 q hq; omega, (hb q (List.mem_cons_of_mem _ hq)).2⟩)
    simp only [List.length_cons]
    omega

section
variable {w w1 : World} {g bm : Nat} {Rs : Nat → Prop} {E : List (Int × (Value × List Int))} {m : Int}
theorem St.few (h : St w g bm Rs E m) : E.length ≤ 64 := by
  have := up_length (a := 0) h.up h.keys
  omega
theorem ownsMap_tight {n : Nat} {D : DataW Value} (h : w.ownsMap Try.prog 3 tok bm n D) : w.ownsMap Try.prog 3 tok bm (Maps.size D) D := by
  obtain ⟨es, clock, hb, F, hs, rfl⟩ := h
  refine ⟨es, clock, hb, F, ?_, rfl⟩
  simp [Maps.size, length_sorted]
theorem St.map' (h : St w g bm Rs E m) : w.ownsMap Try.prog 3 tok bm E.length (dat (E.map fun p => (p.1, p.2.1))) := by
  obtain ⟨n, hn⟩ := h.map
  have := ownsMap_tight hn
  rwa [dat_size, List.length_map] at this
theorem St.lt (h : St w g bm Rs E m) : g < w.heap.size ∧ bm < w.heap.size ∧ g ≠ bm := by
  refine ⟨(Array.getElem?_eq_some_iff.1 h.cells).1, h.map'.lt, fun e => ?_⟩
  obtain ⟨es, clock, hb, _⟩ := h.map'
  have := h.cells
  rw [e, hb] at this
  cases this
/-- Whatever leaves its blocks as they were leaves it. -/
theorem St.step (h : St w g bm Rs E m) (hs : w.heap.size ≤ w1.heap.size) (hg : w1.heap[g]? = w.heap[g]?) (hbm : w1.heap[bm]? = w.heap[bm]?) (hb : ∀ k, Rs k → k < w.heap.size → w1.heap[k]? = w.heap[k]?) : St w1 g bm Rs E m where
  cells := hg.trans h.cells
  map := by
    obtain ⟨n, es, clock, h1, h2⟩ := h.map
    exact ⟨n, es, clock, hbm.trans h1, h2⟩
  up := h.up
  keys := h.keys
  rows := fun p hp => (h.rows p hp).step hs hb
  len := h.len
  apart := h.apart
  low := fun k hk => Nat.lt_of_lt_of_le (h.low k hk) hs
  wf := h.wf
theorem St.below (h : St w g bm Rs E m) (hb : Below w.heap.size w w1) : St w1 g bm Rs E m :=
  h.step hb.size (hb.block g h.lt.1) (hb.block bm h.lt.2.1) (fun k _ hk => hb.block k hk)
theorem St.kept {S : Nat → Prop} (h : St w g bm Rs E m) (hk : Kept w w1 S) (h1 : ¬ S g) (h2 : ¬ S bm) (h3 : ∀ k, Rs k → ¬ S k) : St w1 g bm Rs E m :=
  h.step hk.1 (hk.2 g h.lt.1 h1) (hk.2 bm h.lt.2.1 h2) (fun k hr hlt => hk.2 k hlt (h3 k hr))
theorem St.cell0 (h : St w g bm Rs E m) : w.cell? ⟨g, 0, none⟩ = some (.map (some bm)) := by simp [World.cell?, h.cells]
theorem St.cell1 (h : St w g bm Rs E m) : w.cell? ⟨g, 1, none⟩ = some (.int .i64 m) := by simp [World.cell?, h.cells]
theorem St.frozen1 (h : St w g bm Rs E m) : w.frozen? ⟨g, 1, none⟩ = false := by simp [World.frozen?, h.cells]
end

theorem keyed : Keyed Try.prog 3 := int_keyed Try.underlying3
theorem zeroE (w : World) : (zeroValue 22).run Try.prog w = .ok (.slice none 0 0) w := by kernel_rfl
theorem key_of {id : Int} (wf : (Lit.int .i64 id).wf = true) : keyOf Try.prog 3 (.int .i64 id) = some (.int .i64 id) := keyOf_int_mk Try.underlying3 wf

/-- What stands at a key, as values; nil where there is nothing. -/
def valA (id : Int) (E : List (Int × (Value × List Int))) : Value := ((getA id E).map (·.1)).getD (.slice none 0 0)
theorem getA_vals (id : Int) (E : List (Int × (Value × List Int))) : getA id (E.map fun p => (p.1, p.2.1)) = (getA id E).map (·.1) := getA_map (fun q : Value × List Int => q.1) id E

section
variable {w : World} {g bm : Nat} {Rs : Nat → Prop} {E : List (Int × (Value × List Int))} {m : Int}
theorem look_ok (h : St w g bm Rs E m) {id : Int} (wf : (Lit.int .i64 id).wf = true) :
    (Instr.lookup 64 (.map (some bm)) (.int .i64 id) true).run Try.prog w = .ok (.tuple #[valA id E, .bool (getA id E).isSome]) w := by
  obtain ⟨v, ps, hrun, hv⟩ := h.map'.look_ok keyed Try.underlying64 (zeroE w) (tok_mk _) (key_of wf)
  rw [dat_at, getA_vals] at hv
  have hv := tok_inv hv
  rw [dat_has, getA_vals] at hrun
  rw [hrun]
  have : v = valA id E := by
    exact (DataW.held.inj hv).symm
  rw [this, Option.isSome_map]

theorem look (h : St w g bm Rs E m) {id : Int} (wf : (Lit.int .i64 id).wf = true) :
    (Instr.lookup 64 (.map (some bm)) (.int .i64 id) false).run Try.prog w = .ok (valA id E) w := by
  obtain ⟨v, ps, hrun, hv⟩ := h.map'.lookup keyed Try.underlying64 (zeroE w) (tok_mk _) (key_of wf)
  rw [dat_at, getA_vals] at hv
  have hv := tok_inv hv
  rw [hrun]
  have : v = valA id E := (DataW.held.inj hv).symm
  rw [this]

set_option maxHeartbeats 1000000 in
theorem Has_calls (h : St w g bm Rs E m) (id : Int) (wf : (Lit.int .i64 id).wf = true) :
    Calls Try.prog 18 #[.pointer (some ⟨g, 0, none⟩), .int .i64 id] w fun e w' => e = .returned (.bool (getA id E).isSome) ∧ w' = w := by
  have c0 := h.cell0
  have hl := look_ok h wf
  clear h
  generalize valA id E = v at hl
  generalize (getA id E).isSome = b at hl ⊢
  go_enter Try.func18, Try.ntmps18
  go_wp2
  go_ret
  exact ⟨rfl, rfl⟩

set_option maxHeartbeats 1000000 in
theorem Most_calls (h : St w g bm Rs E m) :
    Calls Try.prog 21 #[.pointer (some ⟨g, 0, none⟩)] w fun e w' => e = .returned (.int .i64 m) ∧ w' = w := by
  have c1 := h.cell1
  clear h
  go_enter Try.func21, Try.ntmps21
  go_wp2
  go_ret
  exact ⟨rfl, rfl⟩

set_option maxHeartbeats 1000000 in
theorem Len_calls (h : St w g bm Rs E m) :
    Calls Try.prog 16 #[.pointer (some ⟨g, 0, none⟩)] w fun e w' => e = .returned (.int .i64 E.length) ∧ w' = w := by
  have c0 := h.cell0
  have hl := h.map'.len Try.underlying64
  rw [dat_size, List.length_map] at hl
  clear h
  generalize (E.length : Int) = n at hl ⊢
  go_enter Try.func16, Try.ntmps16
  go_wp2
  go_ret
  exact ⟨rfl, rfl⟩
end
end Go.Proofs.Ytmjbmbhpfckagaa.A
