/- What the document's Put and Take do to the stash in memory, and to what is seen. No walk here. -/
import Derived.Test.YtmjbmbhpfckagaaStashQ
namespace Go.Proofs.Ytmjbmbhpfckagaa.A
open Go.RowKit Go.Maps Go.Sort Go.Shelf Go.Proofs.YtmjbmbhpfckagaaW.PrintWords Go.Proofs.YtmjbmbhpfckagaaW.PrintLast Go.Proofs.Ytmjbmbhpfckagaa.B
set_option linter.unusedVariables false
set_option linter.unusedSimpArgs false

theorem two_set {w : World} {b : Nat} {x0 x1 : Value} {t : TypeId} (h : w.heap[b]? = some (.cells #[x0, x1] t (0, 0))) (y0 y1 : Value) : ((w.setCell ⟨b, 0, none⟩ y0).setCell ⟨b, 1, none⟩ y1).heap[b]? = some (.cells #[y0, y1] t (0, 0)) := by
  simp [World.setCell, Array.getElem?_modify, h]
theorem two_size (w : World) (p q : Addr) (y0 y1 : Value) : ((w.setCell p y0).setCell q y1).heap.size = w.heap.size := by simp [World.setCell]
theorem two_other {w : World} {b : Nat} {o o' k : Nat} (y0 y1 : Value) (h : k ≠ b) : ((w.setCell ⟨b, o, none⟩ y0).setCell ⟨b, o', none⟩ y1).heap[k]? = w.heap[k]? := by
  rw [Below.heap_setCell _ _ _ k h, Below.heap_setCell _ _ _ k h]
theorem two_eff {w : World} {b : Nat} {o o' : Nat} (y0 y1 : Value) {S : Nat → Prop} (h : S b) : Eff w ((w.setCell ⟨b, o, none⟩ y0).setCell ⟨b, o', none⟩ y1) S :=
  ((Eff.refl w S).setCell (.inl h) y0).setCell (.inl h) y1

theorem C_one53 {W : World} {B : Nat} {id : Int} {A : Option Addr} {xs : List Int} {c : Nat} (hx : xs.length ≤ c) (hC : Kd.C (Kd.int .u8) W A xs.length xs) (h0 : W.cell? ⟨B, 0, none⟩ = some (.int .i64 id)) (h1 : W.cell? ⟨B, 1, none⟩ = some (.slice A xs.length c)) : Kd.C k53 W (some ⟨B, 0, none⟩) 1 [⟨id, xs⟩] := by
  refine ⟨rfl, by decide, fun _ => ⟨_, rfl, fun j p hj => ?_⟩⟩
  match j, hj with
  | 0, hj =>
    obtain rfl : (⟨id, xs⟩ : S53) = p := by simpa using hj
    refine ⟨_, rfl, k53_mk W ⟨id, xs⟩ hx hC, fun i u hu => ?_⟩
    match i, hu with
    | 0, hu =>
      obtain rfl : Value.int .i64 id = u := by simpa using hu
      exact h0
    | 1, hu =>
      obtain rfl : Value.slice A xs.length c = u := by simpa using hu
      exact h1
theorem may53 (id : Int) (xs : List Int) : oubref7_MayBlocks.f 5 [⟨id, xs⟩] = some (mayF [] [⟨id, xs⟩]) := by
  have e0 : rd_T53 [(⟨id, xs⟩ : S53)] 0 = ⟨id, xs⟩ := rfl
  have e1 : wrap64 (0 + 1) = 1 := by decide +kernel
  have hl : oubref7_MayBlocks.l0 2 [(⟨id, xs⟩ : S53)] 1 = some true := by
    rw [oubref7_MayBlocks.l0]
    simp
  unfold oubref7_MayBlocks.f
  rw [oubref7_MayBlocks.l0, e0, mayF.eq_def]
  simp only [List.length_cons, List.length_nil]
  rw [if_pos (by omega), if_pos (by omega)]
  by_cases h0 : id < 0
  · rw [if_pos h0, if_pos h0, oubref7_MayBlocks.j1]
    rfl
  · rw [if_neg h0, if_neg h0]
    by_cases h1 : id ≥ 64
    · rw [if_pos h1, if_pos h1, oubref7_MayBlocks.j1]
      rfl
    · rw [if_neg h1, if_neg h1, oubref7_MayBlocks.j1]
      by_cases h2 : xs.length = 37
      · rw [if_neg (by rw [h2]; decide), oubref7_MayBlocks.l1, if_neg (by omega), e1, hl]
        simp [h2, mayF]
      · rw [if_pos (by rw [bne_iff_ne]; omega)]
        simp [h2]
theorem MayB_one {id : Int} {A : Option Addr} {xs : List Int} {c : Nat} {W : World} {M : Bool} (hM : mayF [] [⟨id, xs⟩] = M) (hx : xs.length ≤ c) (hC : Kd.C (Kd.int .u8) W A xs.length xs) (b : Nat) (h0 : W.cell? ⟨b, 0, none⟩ = some (.int .i64 id)) (h1 : W.cell? ⟨b, 1, none⟩ = some (.slice A xs.length c)) :
    Calls Try.prog 33 #[.slice (some ⟨b, 0, none⟩) 1 1] W fun e w' => e = .returned (.bool M) ∧ Below W.heap.size W w' := by
  refine (oubref7_MayBlocks.calls 5 (some ⟨b, 0, none⟩) 1 [⟨id, xs⟩] M W (C_one53 hx hC h0 h1) (Nat.le_refl _) (by rw [may53, hM])).mono ?_
  rintro e w' ⟨rfl, ⟨n, rfl⟩⟩
  exact ⟨rfl, pw_below_drewN (Below.refl _ _) n⟩
theorem CopyB {A : Option Addr} {xs : List Int} {c : Nat} {W : World} (hx : xs.length ≤ c) (hC : Kd.C (Kd.int .u8) W A xs.length xs) (hl : xs.length = 37) :
    Calls Try.prog 34 #[.slice A xs.length c] W fun e w' => ∃ a k, e = .returned (.slice (some ⟨a, 0, none⟩) xs.length k) ∧ w'.ownsRow W.heap.size 5 1 (.slice (some ⟨a, 0, none⟩) xs.length k) xs.length (xs.map (Value.int .u8)) ∧ Below W.heap.size W w' := by
  refine (oubref_CopyBytes.calls A c xs xs W hC hx (by unfold oubref_CopyBytes.f; simp; omega)).mono ?_
  rintro e w' ⟨v, rfl, hR, hb⟩
  have ho := Kd.own_of_R hR
  have ho : w'.ownsRow W.heap.size 5 1 v xs.length (xs.map (Value.int .u8)) := ho
  obtain ⟨a, k, rfl, _⟩ := own_open ho (by omega)
  exact ⟨a, k, rfl, ho, hb⟩
theorem own_row {w : World} {base a n k : Nat} {xs : List Int} (h : w.ownsRow base 5 1 (.slice (some ⟨a, 0, none⟩) n k) n (xs.map (Value.int .u8))) (h0 : 0 < n) : Row w (fun j => j = a) (entV (0, (some ⟨a, 0, none⟩, n, k))) xs ∧ base ≤ a ∧ a < w.heap.size := by
  obtain rfl : xs.length = n := by have := h.1; simpa using this
  obtain ⟨_, _, e1, h1, h2, h3, _, _, h6⟩ := own_open h h0
  cases e1
  obtain ⟨a', o', c', e2, k1, k2, _, _, k5⟩ := row_of_own h h0
  cases e2
  exact ⟨⟨a, 0, k, rfl, h1, k2, rfl, h3, h6⟩, h2, h3⟩

/-- Do blocks in memory fit what is seen? -/
def Fit (w : World) (Rs : Nat → Prop) (ys : List Ent) (P : List (Int × List Int)) : Prop := ys.length = P.length ∧ ∀ (j : Nat) y p, ys[j]? = some y → P[j]? = some p → y.1 = p.1 ∧ Row w Rs (entV y) p.2
theorem Fit.mono {w : World} {Rs Rs' : Nat → Prop} {ys : List Ent} {P : List (Int × List Int)} (h : Fit w Rs ys P) (hr : ∀ k, Rs k → Rs' k) : Fit w Rs' ys P := ⟨h.1, fun j y p hy hp => ⟨(h.2 j y p hy hp).1, (h.2 j y p hy hp).2.mono hr⟩⟩
theorem Fit.append {w : World} {Rs : Nat → Prop} {ys zs : List Ent} {P Q : List (Int × List Int)} (h : Fit w Rs ys P) (k : Fit w Rs zs Q) : Fit w Rs (ys ++ zs) (P ++ Q) := by
  refine ⟨by simp [h.1, k.1], fun j y p hy hp => ?_⟩
  by_cases hj : j < ys.length
  · rw [List.getElem?_append_left hj] at hy
    rw [List.getElem?_append_left (by rw [← h.1]; exact hj)] at hp
    exact h.2 j y p hy hp
  · rw [List.getElem?_append_right (by omega)] at hy
    rw [List.getElem?_append_right (by rw [← h.1]; omega), ← h.1] at hp
    exact k.2 _ y p hy hp
theorem Fit.take {w : World} {Rs : Nat → Prop} {ys : List Ent} {P : List (Int × List Int)} (h : Fit w Rs ys P) (k : Nat) : Fit w Rs (ys.take k) (P.take k) := by
  refine ⟨by simp [h.1], fun j y p hy hp => ?_⟩
  rw [List.getElem?_take] at hy hp
  split at hy
  · rw [if_pos ‹_›] at hp
    exact h.2 j y p hy hp
  · cases hy
theorem Fit.drop {w : World} {Rs : Nat → Prop} {ys : List Ent} {P : List (Int × List Int)} (h : Fit w Rs ys P) (k : Nat) : Fit w Rs (ys.drop k) (P.drop k) := by
  refine ⟨by simp [h.1], fun j y p hy hp => ?_⟩
  rw [List.getElem?_drop] at hy hp
  exact h.2 _ y p hy hp
theorem Fit.one {w : World} {Rs : Nat → Prop} {y : Ent} {p : Int × List Int} (h1 : y.1 = p.1) (h2 : Row w Rs (entV y) p.2) : Fit w Rs [y] [p] := by
  refine ⟨rfl, fun j y' p' hy hp => ?_⟩
  match j, hy, hp with
  | 0, hy, hp =>
    obtain rfl : y = y' := by simpa using hy
    obtain rfl : p = p' := by simpa using hp
    exact ⟨h1, h2⟩
theorem take_C {w : World} {A2 : Option Addr} {n c2 k : Nat} {ys : List Ent} (h : ∃ A c, Value.slice A2 n c2 = .slice A n c ∧ n ≤ c ∧ kF.C w A n ys) (hk : k ≤ ys.length) : kF.C w A2 k (ys.take k) := by
  obtain ⟨A, c, e, _, hC⟩ := h
  cases e
  have hn : n = ys.length := hC.1.symm
  subst hn
  have := Kd.C_take hC hk
  rwa [List.length_take, Nat.min_eq_left hk] at this
theorem drop_C {w : World} {A2 : Option Addr} {n c2 k : Nat} {ys : List Ent} (h : ∃ A c, Value.slice A2 n c2 = .slice A n c ∧ n ≤ c ∧ kF.C w A n ys) (hk : k ≤ ys.length) : kF.C w (if c2 = k then A2 else A2.map (·.add (k * 2))) (n - k) (ys.drop k) := by
  obtain ⟨A, c, e, hc, hC⟩ := h
  cases e
  have hn : n = ys.length := hC.1.symm
  subst hn
  have := Kd.C_drop hC hk hc
  rwa [List.length_drop] at this
theorem C_same {w w1 : World} {a o n : Nat} {xs : List Int} (h : Kd.C (Kd.int .u8) w (some ⟨a, o, none⟩) n xs) (hb : w1.heap[a]? = w.heap[a]?) : Kd.C (Kd.int .u8) w1 (some ⟨a, o, none⟩) n xs := by
  refine Kd.C_of_reads (d := (0 : Int)) ?_
  obtain ⟨e1, e2, e3⟩ := Kd.reads_of_C (d := (0 : Int)) h
  refine ⟨e1, e2, fun h0 => ?_⟩
  obtain ⟨ad, he, hc⟩ := e3 h0
  cases he
  exact ⟨_, rfl, fun j hj => (World.cell?_of_block (by rw [add_block]; exact hb)).trans (hc j hj)⟩
theorem kF_KM {W : World} {base : Nat} {ok : Nat → Prop} : ∀ x cs, kF.K W x cs → kF.M W base ok x cs := fun x cs h => by
  rw [kF_open h]
  exact kF_mkM _ _ _ _ _ _ _
theorem kF_one {W : World} {b : Nat} {i : Int} {A : Option Addr} {n c : Nat} {t : TypeId} (h : W.heap[b]? = some (.cells #[.int .i64 i, .slice A n c] t (0, 0))) : kF.C W (some ⟨b, 0, none⟩) 1 [(i, (A, n, c))] := by
  refine ⟨rfl, by decide, fun _ => ⟨_, rfl, fun j p hj => ?_⟩⟩
  match j, hj with
  | 0, hj =>
    obtain rfl : ((i, (A, n, c)) : Ent) = p := by simpa using hj
    refine ⟨[.int .i64 i, .slice A n c], rfl, ⟨[.int .i64 i], [.slice A n c], rfl, rfl, rfl⟩, fun l u hu => ?_⟩
    match l, hu with
    | 0, hu =>
      obtain rfl : Value.int .i64 i = u := by simpa using hu
      exact cell_at h 0 rfl
    | 1, hu =>
      obtain rfl : Value.slice A n c = u := by simpa using hu
      exact cell_at h 1 rfl
section
variable {w : World} {g : Nat} {Rs : Nat → Prop} {v : Value} {ys : List Ent} {P : List (Int × List Int)} {m : Int}
theorem XS.fit (h : XS w g Rs v ys P m) : Fit w Rs ys P := ⟨h.len, h.rows⟩
theorem eff_two {w1 : World} {S : Nat → Prop} (h : Eff w w1 S) : Kept w w1 S := h.kept
/-- One of its blocks is written anew. -/
theorem XS.set {b n c : Nat} (h : XS w g Rs (.slice (some ⟨b, 0, none⟩) n c) ys P m) {k : Nat} (hk : k < P.length) {id : Int} {xs : List Int} {a k2 : Nat} (hr : Row w (fun j => j = a) (entV (id, (some ⟨a, 0, none⟩, xs.length, k2))) xs) (ha : g < a ∧ a ≠ b) :
    XS ((w.setCell ⟨b, k * 2, none⟩ (.int .i64 id)).setCell ⟨b, k * 2 + 1, none⟩ (.slice (some ⟨a, 0, none⟩) xs.length k2)) g (fun j => Rs j ∨ j = a) (.slice (some ⟨b, 0, none⟩) n c) (ys.set k (id, (some ⟨a, 0, none⟩, xs.length, k2))) (P.set k (id, xs)) m := by
  obtain ⟨hb1, hb2⟩ := h.base b (by simp [Value.ownBlock])
  have hnb := h.nv b (by simp [Value.ownBlock])
  obtain ⟨y, p, hy, hp, e1, hrow, q0, q1, _⟩ := h.at k hk
  have hn : n = P.length := by
    obtain ⟨A, c', e, _⟩ := h.slice
    cases e
    rfl
  obtain ⟨hR, hg⟩ := Kd.R_seg h.own (k : Int) (by omega) (by omega) (c := [.int .i64 p.1, entV y]) (seg := [.int .i64 id, .slice (some ⟨a, 0, none⟩) xs.length k2]) (j := 0) (x' := (id, (some ⟨a, 0, none⟩, xs.length, k2))) (okp := fun _ => False) rfl (fun j u hu => by
    rw [Int.toNat_natCast]
    match j, hu with
    | 0, hu =>
      obtain rfl : Value.int .i64 p.1 = u := by simpa using hu
      exact q0
    | 1, hu =>
      obtain rfl : entV y = u := by simpa using hu
      exact q1) (Nat.le_refl _) (kF_mkM _ _ _ _ _ _ _) (fun _ hk => hk.elim)
  rw [Int.toNat_natCast] at hR hg
  have key : ∀ j, j ≠ b → ((w.setCell ⟨b, k * 2, none⟩ (.int .i64 id)).setCell ⟨b, k * 2 + 1, none⟩ (.slice (some ⟨a, 0, none⟩) xs.length k2)).heap[j]? = w.heap[j]? := fun j hj => two_other _ _ hj
  refine ⟨(key g (by omega)).trans h.cells, hR, by simp [h.len], fun j y' p' hy' hp' => ?_, fun j hj => ?_, fun j hj => ?_⟩
  · by_cases hjk : j = k
    · subst hjk
      have hjy : j < ys.length := by rw [h.len]; exact hk
      rw [List.getElem?_set_self hjy] at hy'
      rw [List.getElem?_set_self hk] at hp'
      cases hy'
      cases hp'
      exact ⟨rfl, (hr.mono (fun _ h => .inr h)).step (by rw [two_size]; exact Nat.le_refl _) (fun i hi _ => by
        rcases hi with hi | rfl
        · exact key i (fun e => hnb (e ▸ hi))
        · exact key i ha.2)⟩
    · rw [List.getElem?_set_ne (Ne.symm hjk)] at hy' hp'
      obtain ⟨s1, s2⟩ := h.rows j y' p' hy' hp'
      exact ⟨s1, (s2.step (by rw [two_size]; exact Nat.le_refl _) (fun i hi _ => key i (fun e => hnb (e ▸ hi)))).mono (fun _ h => .inl h)⟩
  · obtain rfl : b = j := by simpa [Value.ownBlock] using hj
    rintro (h2 | h2)
    · exact hnb h2
    · exact ha.2 h2.symm
  · rw [two_size]
    rcases hj with hj | rfl
    · exact h.hi j hj
    · obtain ⟨_, _, _, e2, _, _, h4, h5, _⟩ := hr
      simp only [entV] at e2
      injection e2 with e3
      injection e3 with e3
      injection e3 with e3
      exact ⟨ha.1, by omega⟩

/-- Another row of blocks is laid. -/
theorem XS.lay (h : XS w g Rs v ys P m) {v' : Value} {ys' : List Ent} {P' : List (Int × List Int)} {Rs' : Nat → Prop} (hown : kF.R 53 w (g + 1) (fun _ => True) v' ys') (hl : ys'.length = P'.length) (hr : ∀ (j : Nat) y p, ys'[j]? = some y → P'[j]? = some p → y.1 = p.1 ∧ Row w Rs' (entV y) p.2) (hn : ∀ k, v'.ownBlock = some k → ¬ Rs' k) (hh : ∀ k, Rs' k → g < k ∧ k < w.heap.size) : XS (w.setCell ⟨g, 0, none⟩ v') g Rs' v' ys' P' m := by
  have key : ∀ j, j ≠ g → (w.setCell ⟨g, 0, none⟩ v').heap[j]? = w.heap[j]? := fun j hj => Below.heap_setCell _ _ _ j hj
  refine ⟨?_, ?_, hl, fun j y p hy hp => ⟨(hr j y p hy hp).1, (hr j y p hy hp).2.step (by rw [set_size]; exact Nat.le_refl _) (fun k hk _ => key k (by have := hh k hk; omega))⟩, hn, fun k hk => by rw [set_size]; exact hh k hk⟩
  · have := h.cells
    simp [World.setCell, Array.getElem?_modify, this]
  · obtain ⟨h0, inner, ho, hr2⟩ := hown
    exact ⟨h0, inner, own_move ho (fun k hk => key k (by have := own_base ho k hk; omega)), hr2⟩
theorem XS.most (h : XS w g Rs v ys P m) (m' : Int) : XS (w.setCell ⟨g, 1, none⟩ (.int .i64 m')) g Rs v ys P m' := by
  have key : ∀ j, j ≠ g → (w.setCell ⟨g, 1, none⟩ (.int .i64 m')).heap[j]? = w.heap[j]? := fun j hj => Below.heap_setCell _ _ _ j hj
  refine ⟨?_, ?_, h.len, fun j y p hy hp => ⟨(h.rows j y p hy hp).1, (h.rows j y p hy hp).2.step (by rw [set_size]; exact Nat.le_refl _) (fun k hk _ => key k (by have := h.hi k hk; omega))⟩, h.nv, fun k hk => by rw [set_size]; exact h.hi k hk⟩
  · have := h.cells
    simp [World.setCell, Array.getElem?_modify, this]
  · obtain ⟨h0, inner, ho, hr2⟩ := h.own
    exact ⟨h0, inner, own_move ho (fun k hk => key k (by have := own_base ho k hk; omega)), hr2⟩
end

theorem ix_cons (id : Int) (j : Int) (y : List Int) (r : List (Int × List Int)) : ix id ((j, y) :: r) = if j = id then some 0 else (ix id r).map (· + 1) := by
  unfold ix
  rw [List.findIdx?_cons]
  by_cases h : j = id <;> simp [h]
theorem ix_get {P : List (Int × List Int)} {id : Int} {k : Nat} (h : ix id P = some k) : ∃ p, P[k]? = some p ∧ p.1 = id ∧ k < P.length := by
  unfold ix at h
  obtain ⟨hk, h1, _⟩ := List.findIdx?_eq_some_iff_getElem.1 h
  exact ⟨P[k], by simp [hk], by simpa using h1, hk⟩
theorem ix_getA (id : Int) : ∀ P : List (Int × List Int), getA id P = (ix id P).bind fun k => (P[k]?).map (·.2)
  | [] => rfl
  | (j, y) :: r => by
    rw [ix_cons]
    by_cases h : j = id
    · subst h
      rw [getA_here]
      simp
    · rw [getA_there h, if_neg h, ix_getA id r]
      cases ix id r <;> simp
theorem put_at {id : Int} {x : List Int} : ∀ {P : List (Int × List Int)} {k : Nat}, Up P → ix id P = some k → putA id x P = P.set k (id, x)
  | [], k, _, h => by cases h
  | (j, y) :: r, k, hu, h => by
    obtain ⟨h1, h2⟩ := List.pairwise_cons.1 hu
    rw [ix_cons] at h
    by_cases he : j = id
    · subst he
      rw [if_pos rfl] at h
      cases h
      simp [putA]
    · rw [if_neg he] at h
      obtain ⟨k', hk', rfl⟩ := Option.map_eq_some_iff.1 h
      obtain ⟨p, hp, hpe, _⟩ := ix_get hk'
      have hlt : j < p.1 := h1 p (List.mem_of_getElem? hp)
      simp only [putA]
      rw [if_neg (by omega), if_neg (by omega), put_at h2 hk', List.set_cons_succ]
theorem del_at {id : Int} : ∀ {P : List (Int × List Int)} {k : Nat}, Up P → ix id P = some k → delA id P = P.take k ++ P.drop (k + 1)
  | [], k, _, h => by cases h
  | (j, y) :: r, k, hu, h => by
    obtain ⟨h1, h2⟩ := List.pairwise_cons.1 hu
    rw [ix_cons] at h
    by_cases he : j = id
    · subst he
      rw [if_pos rfl] at h
      cases h
      have e := delA_none (k := j) (l := r) (fun p hp => by have h3 : j < p.1 := h1 p hp; omega)
      unfold delA at *
      rw [List.filter_cons_of_neg (by simp), e]
      rfl
    · rw [if_neg he] at h
      obtain ⟨k', hk', rfl⟩ := Option.map_eq_some_iff.1 h
      have ih := del_at h2 hk'
      unfold delA at *
      rw [List.filter_cons_of_pos (by simpa using he), ih]
      rfl
theorem put_in {id : Int} {x : List Int} : ∀ {P : List (Int × List Int)} {k : Nat}, ix id P = none → k ≤ P.length → (∀ (i : Nat) p, i < k → P[i]? = some p → p.1 < id) → (∀ p, P[k]? = some p → ¬ p.1 < id) → putA id x P = (P.take k ++ [(id, x)]) ++ P.drop k
  | [], k, _, hk, _, _ => by
    obtain rfl : k = 0 := by simpa using hk
    rfl
  | (j, y) :: r, k, h, hk, ha, hb => by
    rw [ix_cons] at h
    by_cases he : j = id
    · rw [if_pos he] at h
      cases h
    · rw [if_neg he, Option.map_eq_none_iff] at h
      cases k with
      | zero =>
        have := hb (j, y) rfl
        simp only at this
        simp only [putA]
        rw [if_pos (by omega)]
        rfl
      | succ k =>
        have h1 := ha 0 (j, y) (by omega) rfl
        simp only at h1
        simp only [putA]
        rw [if_neg (by omega), if_neg (by omega), put_in (k := k) h (by simp at hk; omega) (fun i p hi hp => ha (i + 1) p (by omega) (by simpa using hp)) (fun p hp => hb p (by simpa using hp))]
        rfl
end Go.Proofs.Ytmjbmbhpfckagaa.A
