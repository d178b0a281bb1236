/- Part of the proof of LawCkptWrites. -/
import Derived.Test.YtmbnomlkhmcmaaaGreatZ12
section
namespace Go.Proofs.YtmbnomlkhmcmaaaGreat.A
open Go.RowKit Go.Shelf Go.Proofs.YtmbnomlkhmcmaaaGreatW.PrintWords Go.Proofs.YtmbnomlkhmcmaaaGreatW.PrintLast Go.Proofs.YtmbnomlkhmcmaaaGreatW.PrintMore Go.Proofs.YtmbnomlkhmcmaaaGreat.C
set_option linter.unusedVariables false
set_option linter.unusedSimpArgs false
def FewPost (n : Nat) (w : World) (e : Ending) (w' : World) : Prop := ∃ r, e = .returned (.bool r) ∧ (r = true → n ≤ 200) ∧ Below w.heap.size w w'
set_option maxHeartbeats 1000000 in
set_option maxRecDepth 100000 in
theorem FewB_call {l : List Bk} {w : World} {A : Option Addr} {n c : Nat} (hn : l.length = n) (hC : Kd.C k170 w A n l) : Calls Tryz.prog 44 #[.slice A n c] w (FewPost n w) := by
  have HC := Lib.hid hC
  have HM := Lib.hid hC.2.1
  have HN := Lib.hid hn
  clear hn hC
  go_enter Tryz.func44, Tryz.ntmps44
  go_wp2_with fail
  go_loopw [3, 4] (fun s i wr => ∃ (k : Nat) (m : Int), k ≤ n ∧ i = .int .i64 k ∧ s = .int .i64 m ∧ wr = w) (fun _ i _ => n - (intOf i).toNat)
  case atStart =>
    exact ⟨0, 0, Nat.zero_le _, rfl, rfl, rfl⟩
  case round =>
    obtain ⟨k, m, hk, rfl, rfl, rfl⟩ := hrel
    by_cases hlt : k < n
    · by_cases h2 : k < 200
      · obtain ⟨ad, A1, c1, rfl, q0, q1, l1, g1⟩ := at_T170 HC.out (k : Int) (by omega) (by omega)
        obtain ⟨n1, hn1⟩ : ∃ n1, (rd_T170 l (k : Int)).f1.length = n1 := ⟨_, rfl⟩
        rw [hn1] at q1
        simp only [Int.toNat_natCast] at q0 q1
        have c0 : (0 : Int) ≤ (k : Int) := by omega
        have c2 := HM.out
        clear l1 g1 hn1
        by_cases hm : n1 < 20001
        · go_wp2_with fail
          refine ⟨⟨k + 1, _, by omega, by rw [Int.natCast_add]; rfl, rfl, trivial⟩, ?_⟩
          simp only [intOf]
          omega
        · go_wp2_with fail
          refine ⟨⟨k + 1, _, by omega, by rw [Int.natCast_add]; rfl, rfl, trivial⟩, ?_⟩
          simp only [intOf]
          omega
      · by_cases hn2 : n ≤ 200
        · omega
        · go_wp2_with fail
          go_ret
          exact ⟨_, rfl, (fun h => by first | cases h | exact absurd h (by decide)), Below.refl _ _⟩
    · obtain rfl : n = k := by omega
      by_cases hn2 : n ≤ 200
      · by_cases hm : m ≤ 20000
        · go_wp2_with fail
          go_ret
          exact ⟨_, rfl, (fun _ => hn2), Below.refl _ _⟩
        · go_wp2_with fail
          go_ret
          exact ⟨_, rfl, (fun _ => hn2), Below.refl _ _⟩
      · go_wp2_with fail
        go_ret
        exact ⟨_, rfl, (fun h => by first | cases h | exact absurd h (by decide)), Below.refl _ _⟩
structure De.At (d : De) (w : World) (p : Addr) : Prop where
  al : w.cell? ⟨p.block, p.off + 2, none⟩ = some (.slice d.LA d.L.length d.Lc)
  ap : w.cell? ⟨p.block, p.off + 3, none⟩ = some (.slice d.PA d.P.length d.Pc)
  ad : w.cell? ⟨p.block, p.off + 4, none⟩ = some (.slice d.DA d.D.length d.Dc)
  ak : w.cell? ⟨p.block, p.off + 5, none⟩ = some (.slice d.KA d.K.length d.Kc)
  ar : d.R w
theorem De.At.below {d : De} {w w' : World} {p : Addr} (h : d.At w p) (hb : Below w.heap.size w w') : d.At w' p :=
  ⟨pw_cell_below hb h.al, pw_cell_below hb h.ap, pw_cell_below hb h.ad, pw_cell_below hb h.ak, h.ar.below hb⟩
def DeRow (L : List De) (w : World) (A : Option Addr) : Prop := ∀ (i : Nat) (d : De), L[i]? = some d → ∃ ad, A = some ad ∧ d.At w (ad.add (i * 6))
def De.few (d : De) : Prop := d.L.length ≤ 300 ∧ d.P.length ≤ 300 ∧ d.D.length ≤ 300 ∧ d.K.length ≤ 200
def Fu.few (f : Fu) : Prop := f.P.length ≤ 300 ∧ f.E.length ≤ 300 ∧ f.V.length ≤ 300 ∧ f.K.length ≤ 200
def fewPost (f : Fu) (L : List De) (w : World) (e : Ending) (w' : World) : Prop := ∃ r, e = .returned (.bool r) ∧ (r = true → f.few ∧ L.length ≤ 10 ∧ ∀ d ∈ L, d.few) ∧ Below w.heap.size w w'
theorem fewPost_no {f : Fu} {L : List De} {w w' : World} (hb : Below w.heap.size w w') : fewPost f L w (.returned (.bool false)) w' := ⟨false, rfl, (fun h => by cases h), hb⟩
set_option maxHeartbeats 4000000 in
set_option maxRecDepth 100000 in
theorem few_call {f : Fu} {L : List De} {w : World} {A : Option Addr} {n c : Nat} (hf : f.R w) (hn : L.length = n) (hL : DeRow L w A) : Calls Tryz.prog 11 #[f.v, .slice A n c] w (fewPost f L w) := by
  have HD := Lib.hid hf
  have HL := Lib.hid hL
  have HN := Lib.hid hn
  obtain ⟨nP, hnP⟩ : ∃ n, f.P.length = n := ⟨_, rfl⟩
  obtain ⟨nE, hnE⟩ : ∃ n, f.E.length = n := ⟨_, rfl⟩
  obtain ⟨nV, hnV⟩ : ∃ n, f.V.length = n := ⟨_, rfl⟩
  obtain ⟨nK, hnK⟩ : ∃ n, f.K.length = n := ⟨_, rfl⟩
  obtain ⟨EA, hEA⟩ : ∃ p, f.EA = p := ⟨_, rfl⟩
  obtain ⟨PA, hPA⟩ : ∃ p, f.PA = p := ⟨_, rfl⟩
  have HRE := Lib.hid (show Kd.C k107 w EA nE f.E from by rw [← hEA, ← hnE]; exact hf.re)
  have HRK := Lib.hid (show Kd.C k170 w f.KA nK f.K from by rw [← hnK]; exact hf.rk)
  have HB := Lib.hid (show f.P.length = nP ∧ f.E.length = nE ∧ f.V.length = nV ∧ f.K.length = nK from ⟨hnP, hnE, hnV, hnK⟩)
  have HME := Lib.hid (show nE ≤ 9223372036854775807 from hnE ▸ hf.re.2.1)
  show Calls _ _ #[.agg #[.int .i64 f.s, .int .i64 f.e, .slice f.PA f.P.length f.Pc, .slice f.EA f.E.length f.Ec, .slice f.VA f.V.length f.Vc, .slice f.KA f.K.length f.Kc], .slice A n c] _ _
  rw [hnP, hnE, hnV, hnK, hEA, hPA]
  clear hf hL hn hnP hnE hnV hnK hEA hPA
  go_enter Tryz.func11, Tryz.ntmps11
  go_upto_region 2 with (first
    | ((with_reducible refine gate_dst (N := 2) rfl ?_); refine box_event ?hg (N := 2) ?hd (cs := #[.int .i64 f.s, .int .i64 f.e, .slice PA nP f.Pc, .slice EA nE f.Ec, .slice f.VA nV f.Vc, .slice f.KA nK f.Kc]) (t := 32) ?hr ?_; (case hd => rfl); (case hg => rfl); (case hr => first | (go_simp; done) | (go_simp; rfl)); intro gf hg_ w1 hbox_ hb_; have HX1 := Lib.hid (Sr.box (Sr.nil w) hg_ hbox_ hb_); have q2 := HX1.out.cell mh 2 rfl; have q4 := HX1.out.cell mh 4 rfl; clear hbox_ hb_ hg_)
    | fail)
  have q3 := HX1.out.cell mh 3 rfl
  have q5 := HX1.out.cell mh 5 rfl
  by_cases a1 : nP ≤ 300
  · by_cases a2 : nE ≤ 300
    · by_cases a3 : nV ≤ 300
      · by_cases a4 : n ≤ 10
        · go_wp2_with fail
          with_reducible refine (FewB_call HB.out.2.2.2 (Kd.C_below HRK.out HX1.out.bel)).mono ?_
          rintro e w2 ⟨r1, rfl, hr1, hb2⟩
          have HX2 := Lib.hid (HX1.out.below hb2)
          clear hb2 q2 q3 q4 q5 HX1
          cases r1 with
          | false =>
            go_wp2_with fail
            go_ret
            exact fewPost_no HX2.out.bel
          | true =>
            have HFf := Lib.hid (show f.few ∧ L.length ≤ 10 from ⟨⟨by rw [HB.out.1]; exact a1, by rw [HB.out.2.1]; exact a2, by rw [HB.out.2.2.1]; exact a3, by rw [HB.out.2.2.2]; exact hr1 rfl⟩, by rw [HN.out]; exact a4⟩)
            clear hr1
            go_wp2_with fail
            go_loopw [5, 6] (fun s i wr => ∃ (k : Nat) (m : Int), k ≤ nE ∧ i = .int .i64 k ∧ s = .int .i64 m ∧ wr = w2) (fun _ i _ => nE - (intOf i).toNat)
            case atStart =>
              exact ⟨0, _, Nat.zero_le _, rfl, rfl, rfl⟩
            case round =>
              obtain ⟨k, m, hk, rfl, rfl, rfl⟩ := hrel
              have q3 := HX2.out.cell mh 3 rfl
              by_cases hlt : k < nE
              · obtain ⟨ad, rfl, e0, e1⟩ := at_T107 HRE.out (k : Int) (by omega) (by omega)
                obtain ⟨ke, hke⟩ : ∃ s, (rd_T107 f.E (k : Int)).f0 = s := ⟨_, rfl⟩
                rw [hke] at e0
                simp only [Int.toNat_natCast] at e0
                replace e0 := pw_cell_below HX2.out.bel e0
                have c0 : (0 : Int) ≤ (k : Int) := by omega
                clear e1 hke
                by_cases hm : ke.size < 20001
                · go_wp2_with fail
                  refine ⟨⟨k + 1, _, by omega, by rw [Int.natCast_add]; rfl, rfl, trivial⟩, ?_⟩
                  simp only [intOf]
                  omega
                · go_wp2_with fail
                  refine ⟨⟨k + 1, _, by omega, by rw [Int.natCast_add]; rfl, rfl, trivial⟩, ?_⟩
                  simp only [intOf]
                  omega
              · obtain rfl : nE = k := by omega
                go_wp2_with fail
                clear q3
                go_loopw [5, 7] (fun s i wz => ∃ (k : Nat) (m : Int), k ≤ n ∧ i = .int .i64 k ∧ s = .int .i64 m ∧ Hid (∀ j d, j < k → L[j]? = some d → d.few) ∧ Hid (Sr w [(gf, Obj.cells #[.int .i64 f.s, .int .i64 f.e, .slice PA nP f.Pc, .slice EA nE f.Ec, .slice f.VA nV f.Vc, .slice f.KA nK f.Kc] 32)] wz)) (fun _ i _ => n - (intOf i).toNat)
                case atStart =>
                  exact ⟨0, _, Nat.zero_le _, rfl, rfl, (fun j d hj => absurd hj (Nat.not_lt_zero j)), HX2⟩
                case round =>
                  obtain ⟨k2, m2, hk2, rfl, rfl, HI, HS⟩ := hrel
                  clear HX2
                  by_cases hlt2 : k2 < n
                  · obtain ⟨d, hd⟩ : ∃ d, L[k2]? = some d := ⟨_, List.getElem?_eq_getElem (by have := HN.out; omega)⟩
                    have HDk := Lib.hid hd
                    obtain ⟨ad, rfl, hAt⟩ := HL.out k2 d hd
                    have HAt := Lib.hid hAt
                    obtain ⟨n0, hn0⟩ : ∃ n, d.L.length = n := ⟨_, rfl⟩
                    obtain ⟨n1, hn1⟩ : ∃ n, d.P.length = n := ⟨_, rfl⟩
                    obtain ⟨n2, hn2⟩ : ∃ n, d.D.length = n := ⟨_, rfl⟩
                    obtain ⟨n3, hn3⟩ : ∃ n, d.K.length = n := ⟨_, rfl⟩
                    obtain ⟨DA, hDA⟩ : ∃ p, d.DA = p := ⟨_, rfl⟩
                    have HB2 := Lib.hid (show d.L.length = n0 ∧ d.P.length = n1 ∧ d.D.length = n2 ∧ d.K.length = n3 from ⟨hn0, hn1, hn2, hn3⟩)
                    have HRD := Lib.hid (show Kd.C k109 w DA n2 d.D from by rw [← hDA, ← hn2]; exact hAt.ar.rd)
                    have HRK2 := Lib.hid (show Kd.C k170 w d.KA n3 d.K from by rw [← hn3]; exact hAt.ar.rk)
                    have HMD := Lib.hid (show n2 ≤ 9223372036854775807 from hn2 ▸ hAt.ar.rd.2.1)
                    have p2 := pw_cell_below HS.out.bel hAt.al
                    have p3 := pw_cell_below HS.out.bel hAt.ap
                    have p4 := pw_cell_below HS.out.bel hAt.ad
                    have p5 := pw_cell_below HS.out.bel hAt.ak
                    rw [hn0] at p2
                    rw [hn1] at p3
                    rw [hn2, hDA] at p4
                    rw [hn3] at p5
                    have HP4 := Lib.hid (show w.cell? ⟨(ad.add (k2 * 6)).block, (ad.add (k2 * 6)).off + 4, none⟩ = some (.slice DA n2 d.Dc) from by rw [← hn2, ← hDA]; exact hAt.ad)
                    have c0 : (0 : Int) ≤ (k2 : Int) := by omega
                    clear hd hAt hn0 hn1 hn2 hn3 hDA
                    by_cases b1 : n0 ≤ 300
                    · by_cases b2 : n1 ≤ 300
                      · by_cases b3 : n2 ≤ 300
                        · go_wp2_with fail
                          with_reducible refine (FewB_call HB2.out.2.2.2 (Kd.C_below HRK2.out HS.out.bel)).mono ?_
                          rintro e w3 ⟨r1, rfl, hr1, hb2⟩
                          have HS3 := Lib.hid (HS.out.below hb2)
                          clear hb2 p2 p3 p4 p5 HS
                          cases r1 with
                          | false =>
                            go_wp2_with fail
                            go_ret
                            exact fewPost_no HS3.out.bel
                          | true =>
                            have HI2 := Lib.hid (show ∀ j d, j < k2 + 1 → L[j]? = some d → d.few from fun j z hj hz => by
                              by_cases hjk : j < k2
                              · exact HI.out j z hjk hz
                              · obtain rfl : j = k2 := by omega
                                obtain rfl : d = z := by have h := HDk.out.symm.trans hz; injection h
                                exact ⟨by rw [HB2.out.1]; exact b1, by rw [HB2.out.2.1]; exact b2, by rw [HB2.out.2.2.1]; exact b3, by rw [HB2.out.2.2.2]; exact hr1 rfl⟩)
                            clear hr1 HI
                            go_wp2_with fail
                            go_loopw [5, 8] (fun s i wz => ∃ (k : Nat) (m : Int), k ≤ n2 ∧ i = .int .i64 k ∧ s = .int .i64 m ∧ wz = w3) (fun _ i _ => n2 - (intOf i).toNat)
                            case atStart =>
                              exact ⟨0, _, Nat.zero_le _, rfl, rfl, rfl⟩
                            case round =>
                              obtain ⟨k3, m3, hk3, rfl, rfl, rfl⟩ := hrel
                              have p4 := pw_cell_below HS3.out.bel HP4.out
                              by_cases hlt3 : k3 < n2
                              · obtain ⟨ad3, rfl, e0, e1, e2⟩ := at_T109 HRD.out (k3 : Int) (by omega) (by omega)
                                obtain ⟨ke, hke⟩ : ∃ s, (rd_T109 d.D (k3 : Int)).f1.f0 = s := ⟨_, rfl⟩
                                rw [hke] at e1
                                simp only [Int.toNat_natCast] at e1
                                replace e1 := pw_cell_below HS3.out.bel e1
                                have c3 : (0 : Int) ≤ (k3 : Int) := by omega
                                clear e0 e2 hke
                                by_cases hm : ke.size < 20001
                                · go_wp2_with fail
                                  refine ⟨⟨k3 + 1, _, by omega, by rw [Int.natCast_add]; rfl, rfl, trivial⟩, ?_⟩
                                  simp only [intOf]
                                  omega
                                · go_wp2_with fail
                                  refine ⟨⟨k3 + 1, _, by omega, by rw [Int.natCast_add]; rfl, rfl, trivial⟩, ?_⟩
                                  simp only [intOf]
                                  omega
                              · obtain rfl : n2 = k3 := by omega
                                go_wp2_with fail
                                refine ⟨⟨k2 + 1, _, by omega, by rw [Int.natCast_add]; rfl, rfl, HI2, HS3⟩, ?_⟩
                                simp only [intOf]
                                omega
                        · go_wp2_with fail
                          go_ret
                          exact fewPost_no HS.out.bel
                      · go_wp2_with fail
                        go_ret
                        exact fewPost_no HS.out.bel
                    · go_wp2_with fail
                      go_ret
                      exact fewPost_no HS.out.bel
                  · obtain rfl : n = k2 := by omega
                    go_wp2_with fail
                    go_ret
                    exact ⟨_, rfl, (fun _ => ⟨HFf.out.1, HFf.out.2, fun d hd => by
                      obtain ⟨j, hj⟩ := List.mem_iff_getElem?.1 hd
                      exact HI.out j d (by have h := (List.getElem?_eq_some_iff.1 hj).1; have := HN.out; omega) hj⟩), HS.out.bel⟩
        · go_wp2_with fail
          go_ret
          exact fewPost_no HX1.out.bel
      · go_wp2_with fail
        go_ret
        exact fewPost_no HX1.out.bel
    · go_wp2_with fail
      go_ret
      exact fewPost_no HX1.out.bel
  · go_wp2_with fail
    go_ret
    exact fewPost_no HX1.out.bel
end Go.Proofs.YtmbnomlkhmcmaaaGreat.A
end
section
namespace Go.Proofs.YtmbnomlkhmcmaaaGreat.A
open Go.RowKit Go.Shelf Go.Proofs.YtmbnomlkhmcmaaaGreatW.PrintWords Go.Proofs.YtmbnomlkhmcmaaaGreatW.PrintLast Go.Proofs.YtmbnomlkhmcmaaaGreatW.PrintMore Go.Proofs.YtmbnomlkhmcmaaaGreat.B
set_option linter.unusedVariables false
set_option linter.unusedSimpArgs false
theorem Ly.R.toFR {y : Ly} {w : World} (h : y.R w) : y.FR w 0 w.heap.size := ⟨Kd.F_mono (Kd.C_F (Kd.heap_slice _ (Kd.heap_int _)) h.1) (fun k hk => ⟨Nat.zero_le _, hk⟩), h.2⟩
theorem add_pos (a : Addr) (j : Nat) (h : 0 < j) : a.add j = ⟨a.block, a.off + j, none⟩ := by
  unfold Addr.add
  split
  · omega
  · rfl
def smallY (A : Option Addr) (c : Nat) : Ly := ⟨0, 1, 1, 1, 1, 1, 0, 1, 1, 1, A, c, [[1]]⟩
abbrev smallC (A : Option Addr) (c : Nat) : Array Value := #[.int .i64 0, .int .i64 1, .int .i64 1, .int .i64 1, .int .i64 1, .int .i64 1, .int .i64 0, .int .i64 1, .int .i64 1, .int .i64 1, .slice A 1 c]
theorem small_ok (A : Option Addr) (c : Nat) : (smallY A c).Ok := by
  simp [Ly.Ok, smallY]
theorem C_one {W : World} {b1 b2 : Nat} {t1 t2 : TypeId} (h1 : W.heap[b1]? = some (.cells #[.int .i64 1] t1 (0, 0))) (h2 : W.heap[b2]? = some (.cells #[.slice (some ⟨b1, 0, none⟩) 1 1] t2 (0, 0))) : (smallY (some ⟨b2, 0, none⟩) 1).R W := by
  refine ⟨⟨rfl, by show 1 ≤ 9223372036854775807; decide, fun _ => ⟨_, rfl, fun j p hj => ?_⟩⟩, Nat.le_refl 1⟩
  rcases j with _ | j
  · obtain rfl : [(1 : Int)] = p := by simpa [smallY] using hj
    refine ⟨[.slice (some ⟨b1, 0, none⟩) 1 1], rfl, ⟨some ⟨b1, 0, none⟩, 1, rfl, Nat.le_refl 1, C_ints (l := [1]) (t := t1) h1 (by decide)⟩, fun i u hu => ?_⟩
    rcases i with _ | i
    · obtain rfl := Option.some.inj hu
      exact (blk_cell h2 0).trans rfl
    · simp at hu
  · simp [smallY] at hj
set_option maxHeartbeats 2000000 in
set_option maxRecDepth 100000 in
theorem Small_call (w : World) : Calls Tryz.prog 41 #[] w fun e w' => ∃ A c, e = .returned (.agg (smallC A c)) ∧ (smallY A c).R w' ∧ Below w.heap.size w w' := by
  go_enter Tryz.func41, Tryz.ntmps41
  go_upto_region 1 with (first
    | ((with_reducible refine gate_dst (N := 0) rfl ?_); refine box_event ?hg (N := 0) ?hd (cs := #[.int .i64 0, .int .i64 0, .int .i64 0, .int .i64 0, .int .i64 0, .int .i64 0, .int .i64 0, .int .i64 0, .int .i64 0, .int .i64 0, .slice none 0 0]) (t := 24) ?hr ?_; (case hd => rfl); (case hg => rfl); (case hr => first | (go_simp; done) | (go_simp; rfl)); intro g0 hg_ w1 hbox_ hb_; have HX1 := Lib.hid (Sr.box (Sr.nil w) hg_ hbox_ hb_); clear hbox_ hb_ hg_)
    | fail)
  have HX2 := Lib.hid (HX1.out.row (.cells #[.int .i64 1] 3))
  have HX3 := Lib.hid (HX2.out.row (.cells #[.slice (some ⟨w1.heap.size, 0, none⟩) 1 1] 33))
  have HX4 := Lib.hid (HX3.out.less (mc (mt (mt mh)) (mc mh (mc (mt mh) (fun _ h => (List.not_mem_nil h).elim)))))
  have hs := size_alloc w1 (.cells #[.int .i64 1] 3)
  have HNe := Lib.hid (show ∀ r ∈ [(w1.heap.size + 1, Obj.cells #[.slice (some ⟨w1.heap.size, 0, none⟩) 1 1] 33), (w1.heap.size, Obj.cells #[.int .i64 1] 3)], r.1 ≠ g0 from fun r hr => by
    have hlt : g0 < w1.heap.size := HX1.out.lt mh
    simp only [List.mem_cons, List.not_mem_nil, or_false] at hr
    rcases hr with rfl | rfl <;> simp only <;> omega)
  rw [hs] at HX4
  clear HX2 HX3
  have q0 := HX4.out.cell mh 0 rfl
  have f0 := blk_frozen HX4.out.head.2 0
  have q1 := HX4.out.cell mh 1 rfl
  have f1 := blk_frozen HX4.out.head.2 1
  have q2 := HX4.out.cell mh 2 rfl
  have f2 := blk_frozen HX4.out.head.2 2
  have q3 := HX4.out.cell mh 3 rfl
  have f3 := blk_frozen HX4.out.head.2 3
  have q4 := HX4.out.cell mh 4 rfl
  have f4 := blk_frozen HX4.out.head.2 4
  have q5 := HX4.out.cell mh 5 rfl
  have f5 := blk_frozen HX4.out.head.2 5
  have q6 := HX4.out.cell mh 6 rfl
  have f6 := blk_frozen HX4.out.head.2 6
  have q7 := HX4.out.cell mh 7 rfl
  have f7 := blk_frozen HX4.out.head.2 7
  have q8 := HX4.out.cell mh 8 rfl
  have f8 := blk_frozen HX4.out.head.2 8
  have q9 := HX4.out.cell mh 9 rfl
  have f9 := blk_frozen HX4.out.head.2 9
  have q10 := HX4.out.cell mh 10 rfl
  have f10 := blk_frozen HX4.out.head.2 10
  go_wp2_with fail
  refine bodyPost_ret (results_cell_row rfl _ _ g0 24 #[.int .i64 0, .int .i64 1, .int .i64 1, .int .i64 1, .int .i64 1, .int .i64 1, .int .i64 0, .int .i64 1, .int .i64 1, .int .i64 1, .slice (some ⟨w1.heap.size + 1, 0, none⟩) 1 1] (0, 0) _ rfl (blk11 HX4.out.head.2) Tryz.underlying24 rfl (by kernel_rfl)) rfl ?_
  exact ⟨some ⟨w1.heap.size + 1, 0, none⟩, 1, rfl, C_one ((HX4.out.set11 HNe.out).2 _ (mt (mt mh))).2 ((HX4.out.set11 HNe.out).2 _ (mt mh)).2, (HX4.out.set11 HNe.out).bel⟩
def SmallPost (w : World) (e : Ending) (w' : World) : Prop := ∃ A c, e = .returned (.tuple #[.agg (smallC A c), .bool true]) ∧ (smallY A c).R w' ∧ Below w.heap.size w w'
theorem smallCfg_call {w : World} {A : Option Addr} {c : Nat} (h : (smallY A c).R w) : Calls Tryz.prog 10 #[.agg (smallC A c)] w (SmallPost w) := by
  refine (config_call h (rf := true) (by show fewT [[1]] = true; decide +kernel) (r := true) (decide_eq_true ⟨by show (0 : Int) ≤ 0 ∧ (0 : Int) ≤ 6; decide, by show (1 : Int) ≤ 1 ∧ (1 : Int) ≤ 4; decide, by show (1 : Int) ≤ 1 ∧ (1 : Int) ≤ 64; decide, by show (1 : Int) ≤ 1 ∧ (1 : Int) ≤ 4; decide, by show (1 : Int) ≤ 1 ∧ (1 : Int) ≤ 8; decide, by show (1 : Int) ≤ 1 ∧ (1 : Int) ≤ 8; decide, by show (0 : Int) ≤ 0 ∧ (0 : Int) ≤ 64; decide, by show (1 : Int) ≤ 1 ∧ (1 : Int) ≤ 8; decide, by show (1 : Int) ≤ 1 ∧ (1 : Int) ≤ 16; decide, by show (1 : Int) ≤ 1 ∧ (1 : Int) ≤ 8; decide, by show tabB [[1]] = true; decide +kernel⟩)).mono ?_
  rintro e w' ⟨hb, _, h1⟩
  obtain ⟨A4, c4, rfl, hR⟩ := h1 rfl
  exact ⟨A4, c4, rfl, hR.R, hb⟩
theorem SmallEnc_call {w : World} {A : Option Addr} {c : Nat} (h : (smallY A c).R w) : Calls Tryz.prog 22 #[.agg (smallC A c), .agg #[.int .i64 1, .int .i64 2]] w fun e w' => ∃ B d, e = .returned (.tuple #[.slice B 38 d, .int .i64 0]) ∧ 38 ≤ d ∧ Kd.C (Kd.int .u8) w' B 38 firstB ∧ Below w.heap.size w w' := by
  refine (EncodeCommit_call h (small_ok A c) 1 2).mono ?_
  intro e w' hp
  obtain ⟨B, n, d, rfl, hn, hd, hC, hb⟩ := hp.reads
  rw [show okC 1 2 = true by decide +kernel, if_pos rfl, first_enc (y := smallY A c) rfl] at hn hC
  rw [firstB_len] at hn
  subst hn
  exact ⟨B, d, by rw [show okC 1 2 = true by decide +kernel]; rfl, hd, hC, hb⟩
theorem SmallDec_call {w : World} {A B : Option Addr} {c d : Nat} (h : (smallY A c).R w) (hC : Kd.C (Kd.int .u8) w B 38 firstB) (hd : 38 ≤ d) : Calls Tryz.prog 33 #[.agg (smallC A c), .slice B 38 d] w fun e w' => e = .returned (.tuple #[.agg #[.int .i64 1, .int .i64 2], .int .i64 0]) ∧ Below w.heap.size w w' := by
  refine (DecodeCommit_call h (small_ok A c) firstB firstB_len hC hd (by decide) (by decide)).mono ?_
  rintro e w' ⟨rfl, hb⟩
  refine ⟨?_, hb⟩
  rw [first_dec (y := smallY A c) rfl, firstB_n1, firstB_n2]
  rfl
set_option maxHeartbeats 2000000 in
set_option maxRecDepth 100000 in
theorem first_call (w : World) : Calls Tryz.prog 9 #[] w fun e w' => e = .returned (.bool true) ∧ Below w.heap.size w w' := by
  go_enter Tryz.func9, Tryz.ntmps9
  go_wp2_with fail
  with_reducible refine (Small_call w).mono ?_
  rintro e w1 ⟨A1, c1, rfl, hR1, hb1⟩
  have HX1 := Lib.hid ((Sr.nil w).below hb1)
  have HR1 := Lib.hid hR1
  clear hR1 hb1
  go_wp2_with fail
  with_reducible refine (smallCfg_call HR1.out).mono ?_
  intro e w2 hp
  obtain ⟨A2, c2, rfl, hR2, hb2⟩ := hp
  have HX2 := Lib.hid (HX1.out.below hb2)
  have HR2 := Lib.hid hR2.toFR
  clear hR2 hb2 HX1 HR1
  go_upto_region 2 with (first
    | ((with_reducible refine gate_dst (N := 1) rfl ?_); refine box_event ?hg (N := 1) ?hd (cs := #[.int .i64 0, .int .i64 0, .int .i64 0, .int .i64 0, .int .i64 0, .int .i64 0, .int .i64 0, .int .i64 0, .int .i64 0, .int .i64 0, .slice none 0 0]) (t := 46) ?hr ?_; (case hd => rfl); (case hg => rfl); (case hr => first | (go_simp; done) | (go_simp; rfl)); intro gl hg_ w3 hbox_ hb_; have HN3 := Lib.hid (HX2.out.nes hg_); have HX3 := Lib.hid (Sr.box HX2.out hg_ hbox_ hb_); have HR3 := Lib.hid (HR2.out.below hb_); have HG3 := Lib.hid hg_; have z0 := HX3.out.cell mh 0 rfl; have f0 := blk_frozen HX3.out.head.2 0; have z1 := HX3.out.cell mh 1 rfl; have f1 := blk_frozen HX3.out.head.2 1; have z2 := HX3.out.cell mh 2 rfl; have f2 := blk_frozen HX3.out.head.2 2; have z3 := HX3.out.cell mh 3 rfl; have f3 := blk_frozen HX3.out.head.2 3; have z4 := HX3.out.cell mh 4 rfl; have f4 := blk_frozen HX3.out.head.2 4; have z5 := HX3.out.cell mh 5 rfl; have f5 := blk_frozen HX3.out.head.2 5; have z6 := HX3.out.cell mh 6 rfl; have f6 := blk_frozen HX3.out.head.2 6; have z7 := HX3.out.cell mh 7 rfl; have f7 := blk_frozen HX3.out.head.2 7; have z8 := HX3.out.cell mh 8 rfl; have f8 := blk_frozen HX3.out.head.2 8; have z9 := HX3.out.cell mh 9 rfl; have f9 := blk_frozen HX3.out.head.2 9; have z10 := HX3.out.cell mh 10 rfl; have f10 := blk_frozen HX3.out.head.2 10; clear hbox_ hb_ hg_)
    | fail)
  have HX4 := Lib.hid (show Sr w [(gl, Obj.cells (smallC A2 c2) 46)] (((((((((((w3.setCell ⟨gl, 0, none⟩ (.int .i64 0)).setCell ⟨gl, 1, none⟩ (.int .i64 1)).setCell ⟨gl, 2, none⟩ (.int .i64 1)).setCell ⟨gl, 3, none⟩ (.int .i64 1)).setCell ⟨gl, 4, none⟩ (.int .i64 1)).setCell ⟨gl, 5, none⟩ (.int .i64 1)).setCell ⟨gl, 6, none⟩ (.int .i64 0)).setCell ⟨gl, 7, none⟩ (.int .i64 1)).setCell ⟨gl, 8, none⟩ (.int .i64 1)).setCell ⟨gl, 9, none⟩ (.int .i64 1)).setCell ⟨gl, 10, none⟩ (.slice A2 1 c2)) from HX3.out.set11 HN3.out)
  have HR4 := Lib.hid (show (smallY A2 c2).FR (((((((((((w3.setCell ⟨gl, 0, none⟩ (.int .i64 0)).setCell ⟨gl, 1, none⟩ (.int .i64 1)).setCell ⟨gl, 2, none⟩ (.int .i64 1)).setCell ⟨gl, 3, none⟩ (.int .i64 1)).setCell ⟨gl, 4, none⟩ (.int .i64 1)).setCell ⟨gl, 5, none⟩ (.int .i64 1)).setCell ⟨gl, 6, none⟩ (.int .i64 0)).setCell ⟨gl, 7, none⟩ (.int .i64 1)).setCell ⟨gl, 8, none⟩ (.int .i64 1)).setCell ⟨gl, 9, none⟩ (.int .i64 1)).setCell ⟨gl, 10, none⟩ (.slice A2 1 c2)) 0 w2.heap.size from by with_reducible (repeat refine Ly.FR.far ?_ (Or.inr (Nat.le_of_eq HG3.out.symm))); with_reducible exact HR3.out)
  clear HX3 HX2 HR2 HR3 HN3 z0 f0 z1 f1 z2 f2 z3 f3 z4 f4 z5 f5 z6 f6 z7 f7 z8 f8 z9 f9 z10 f10
  generalize (((((((((((w3.setCell ⟨gl, 0, none⟩ (.int .i64 0)).setCell ⟨gl, 1, none⟩ (.int .i64 1)).setCell ⟨gl, 2, none⟩ (.int .i64 1)).setCell ⟨gl, 3, none⟩ (.int .i64 1)).setCell ⟨gl, 4, none⟩ (.int .i64 1)).setCell ⟨gl, 5, none⟩ (.int .i64 1)).setCell ⟨gl, 6, none⟩ (.int .i64 0)).setCell ⟨gl, 7, none⟩ (.int .i64 1)).setCell ⟨gl, 8, none⟩ (.int .i64 1)).setCell ⟨gl, 9, none⟩ (.int .i64 1)).setCell ⟨gl, 10, none⟩ (.slice A2 1 c2)) = w4 at HX4 HR4 ⊢
  have ql0 := HX4.out.cell mh 0 rfl
  have ql1 := HX4.out.cell mh 1 rfl
  have ql2 := HX4.out.cell mh 2 rfl
  have ql3 := HX4.out.cell mh 3 rfl
  have ql4 := HX4.out.cell mh 4 rfl
  have ql5 := HX4.out.cell mh 5 rfl
  have ql6 := HX4.out.cell mh 6 rfl
  have ql7 := HX4.out.cell mh 7 rfl
  have ql8 := HX4.out.cell mh 8 rfl
  have ql9 := HX4.out.cell mh 9 rfl
  have ql10 := HX4.out.cell mh 10 rfl
  go_wp2_with fail
  with_reducible refine (SmallEnc_call HR4.out.R).mono ?_
  rintro e w5 ⟨B, d, rfl, hd, hC, hb⟩
  have HX5 := Lib.hid (HX4.out.below hb)
  have HR5 := Lib.hid (HR4.out.below hb)
  have HC5 := Lib.hid hC
  have HD5 := Lib.hid hd
  clear HX4 HR4 hd hC hb ql0 ql1 ql2 ql3 ql4 ql5 ql6 ql7 ql8 ql9 ql10
  have ql0 := HX5.out.cell mh 0 rfl
  have ql1 := HX5.out.cell mh 1 rfl
  have ql2 := HX5.out.cell mh 2 rfl
  have ql3 := HX5.out.cell mh 3 rfl
  have ql4 := HX5.out.cell mh 4 rfl
  have ql5 := HX5.out.cell mh 5 rfl
  have ql6 := HX5.out.cell mh 6 rfl
  have ql7 := HX5.out.cell mh 7 rfl
  have ql8 := HX5.out.cell mh 8 rfl
  have ql9 := HX5.out.cell mh 9 rfl
  have ql10 := HX5.out.cell mh 10 rfl
  go_wp2_with fail
  with_reducible refine (SmallDec_call HR5.out.R HC5.out HD5.out).mono ?_
  rintro e w6 ⟨rfl, hb⟩
  have HX6 := Lib.hid (HX5.out.below hb)
  have HC6 := Lib.hid (Kd.C_below HC5.out hb)
  clear HX5 HR5 HC5 hb ql0 ql1 ql2 ql3 ql4 ql5 ql6 ql7 ql8 ql9 ql10
  go_upto_region 6 with (first
    | ((with_reducible refine gate_dst (N := 5) rfl ?_); refine box_event ?hg (N := 5) ?hd (cs := #[.int .i64 0, .int .i64 0]) (t := 26) ?hr ?_; (case hd => rfl); (case hg => rfl); (case hr => first | (go_simp; done) | (go_simp; rfl)); intro gc hg_ w7 hbox_ hb_; have HN7 := Lib.hid (HX6.out.nes hg_); have HX7 := Lib.hid (Sr.box HX6.out hg_ hbox_ hb_); have HF7 := Lib.hid (F_old (g := 0) (w0 := w6) (Kd.heap_int _) HC6.out hb_); have HG7 := Lib.hid hg_; have z0 := HX7.out.cell mh 0 rfl; have f0 := blk_frozen HX7.out.head.2 0; have z1 := HX7.out.cell mh 1 rfl; have f1 := blk_frozen HX7.out.head.2 1; clear hbox_ hb_ hg_)
    | fail)
  have HX8 := Lib.hid (show Sr w [(gc, Obj.cells #[.int .i64 1, .int .i64 2] 26), (gl, Obj.cells (smallC A2 c2) 46)] ((w7.setCell ⟨gc, 0, none⟩ (.int .i64 1)).setCell ⟨gc, 1, none⟩ (.int .i64 2)) from (HX7.out.set (i := 0) (u := .int .i64 1) HN7.out).set (i := 1) (u := .int .i64 2) HN7.out)
  have HF8 := Lib.hid (show Kd.F (Kd.int .u8) ((w7.setCell ⟨gc, 0, none⟩ (.int .i64 1)).setCell ⟨gc, 1, none⟩ (.int .i64 2)) (fun k => k < w6.heap.size) B 38 firstB from Kd.F_far (Kd.F_far HF7.out (fun k hk => by have := HG7.out; have h : k < w6.heap.size := hk; simp only; omega) _) (fun k hk => by have := HG7.out; have h : k < w6.heap.size := hk; simp only; omega) _)
  clear HX7 HX6 HF7 HN7 z0 f0 z1 f1
  generalize (w7.setCell ⟨gc, 0, none⟩ (.int .i64 1)).setCell ⟨gc, 1, none⟩ (.int .i64 2) = w8 at HX8 HF8 ⊢
  obtain ⟨_, _, e3⟩ := Kd.reads_of_C (d := (0 : Int)) (Kd.F_now HF8.out)
  obtain ⟨ad, rfl, hc⟩ := e3 (by decide)
  have p4 := hc 4 (by decide)
  have p9 := hc 9 (by decide)
  rw [add_pos _ _ (by decide)] at p4 p9
  rw [show firstB.getD 4 0 = 1 from by decide +kernel] at p4
  rw [show firstB.getD 9 0 = 2 from by decide +kernel] at p9
  have q0 := HX8.out.cell mh 0 rfl
  have q1 := HX8.out.cell mh 1 rfl
  clear e3 hc
  go_wp2_with fail
  go_ret
  exact ⟨rfl, HX8.out.bel⟩
end Go.Proofs.YtmbnomlkhmcmaaaGreat.A
end
