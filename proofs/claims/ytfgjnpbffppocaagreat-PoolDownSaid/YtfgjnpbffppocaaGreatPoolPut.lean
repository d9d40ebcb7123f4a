/- Layer 24: makes, told of the rows; Put. -/
import Derived.Test.YtfgjnpbffppocaaGreatPoolMakes
import Derived.Deep.AppendLies
namespace Go.Proofs.YtfgjnpbffppocaaGreat.Pool
open Go.RowKit Go.Deep Mem Crc Walk
open Go.Proofs.YtfgjnpbffppocaaGreat.Store (St Chg setC)

theorem own_keep {w w' : World} {base : Nat} {e : TypeId} {size : Nat} {v : Value} {n : Nat} {xs : List Value} (h : w.ownsRow base e size v n xs) (hk : ∀ g, v.ownBlock = some g → w'.heap[g]? = w.heap[g]?) : w'.ownsRow base e size v n xs := by
  refine ⟨h.1, ?_⟩
  rcases h.2 with h0 | ⟨g, cap, cur, rfl, hg, hgg, r⟩
  · exact .inl h0
  · exact .inr ⟨g, cap, cur, rfl, hg, (hk g rfl).trans hgg, r⟩
/-- A pool is where its blocks are. -/
theorem Pl.keep {A : Pa} {off : Bool} {w w' : World} {Qs : Nat → Prop} {hv : Nat → Option Value} {S Hd : Rows} (h : Pl A off w Qs hv S Hd) (hs : w.heap.size ≤ w'.heap.size) (hk : ∀ k, allQ A Qs hv k → w'.heap[k]? = w.heap[k]?) : Pl A off w' Qs hv S Hd := by
  obtain ⟨C, hst, hfl⟩ := h.store
  obtain ⟨f, hm, hms, hf⟩ := h.spilled
  obtain ⟨f2, hm2, hms2, hf2⟩ := h.held
  refine ⟨(hk _ (.inr (.inl (.inl rfl)))).trans h.pool, ⟨C, hst.keep hs (fun k hq => hk k (.inl hq)), hfl⟩, ⟨f, hm.keep (hk _ (.inr (.inl (.inr (.inl rfl))))), hms, hf⟩, ⟨f2, hm2.keep (hk _ (.inr (.inl (.inr (.inr rfl))))), hms2, hf2⟩, fun i hi => ?_, h.apart, h.outside, h.qs, h.maps, h.okS, h.okH, h.top⟩
  have := h.rows i hi
  cases hc : hv i with
  | none => rw [hc] at this; exact this
  | some v =>
    rw [hc] at this
    exact own_keep this (fun g hg => hk g (.inr (.inr ⟨i, v, hi, hc, hg⟩)))
theorem Pl.upon {A : Pa} {off : Bool} {P : Nat → Prop} {w w' : World} {Qs : Nat → Prop} {hv : Nat → Option Value} {S Hd : Rows} (h : Pl A off w Qs hv S Hd) (hu : Upon P w w') (hP : ∀ k, allQ A Qs hv k → ¬ P k) : Pl A off w' Qs hv S Hd := h.keep hu.size (fun k hk => hu.block k (h.lt k hk) (hP k hk))
/-- A block that is none of cells is turned. -/
theorem Went.put {A : Pa} {off : Bool} {P : Nat → Prop} {w w1 W : World} {S Hd : Rows} {X : Nat → Prop} (h : Went A off P W w1 S Hd X) (hB : Below w.heap.size w W) (hP : ∀ k, P k → k < w.heap.size) {D : Nat} (h1 : w.heap.size ≤ D) (h2 : D < W.heap.size) (o : Obj) : Went A off P w (w1.putObj D o) S Hd X := by
  obtain ⟨Qs, hv, hp, hq, hx, hu⟩ := h
  have hg := grownBy_putObj' w1 D o
  refine ⟨Qs, hv, hp.keep hg.size (fun k hk => hg.block k (hp.lt k hk) (fun e => ?_)), fun k hk => (hq k hk).imp id (fun h => Nat.le_trans hB.size h), hx, ?_⟩
  · injection e with e
    subst e
    rcases hq k hk with h3 | h3
    · have := hP k h3
      omega
    · omega
  · have := hu.size
    refine ((Upon.of_below (P := P) hB).trans (Q := P) hu (fun g hg => .inl hg)).trans (Q := fun k => k = D) ⟨hg.os, hg.tape, hg.output, hg.size, fun k hk hn => hg.block k hk (fun e => hn (by injection e))⟩ (fun g hgD => .inr (by have hgD : g = D := hgD; omega))
/-- The rows behind makes. -/
def madeS (A : Pa) (S Hd : Rows) : Rows := if many Hd A.n < A.room then S else upd S (bestOf (holds Hd A.n)).1 (S (bestOf (holds Hd A.n)).1 ++ Hd (bestOf (holds Hd A.n)).1)
def madeH (A : Pa) (Hd : Rows) : Rows := if many Hd A.n < A.room then Hd else upd Hd (bestOf (holds Hd A.n)).1 []
theorem made_row (A : Pa) (S Hd : Rows) (i : Nat) : madeS A S Hd i ++ madeH A Hd i = S i ++ Hd i := by
  unfold madeS madeH
  split
  · rfl
  · by_cases e : i = (bestOf (holds Hd A.n)).1
    · rw [e, upd_same, upd_same]; simp
    · rw [upd_other _ e, upd_other _ e]
theorem made_len (A : Pa) (S Hd : Rows) (i : Nat) : (madeS A S Hd i).length + (madeH A Hd i).length = (S i).length + (Hd i).length := by
  have := congrArg List.length (made_row A S Hd i)
  simpa using this
theorem made_many (A : Pa) (Hd : Rows) : many (madeH A Hd) A.n ≤ many Hd A.n ∧ (1 ≤ A.room → many Hd A.n ≤ A.room → many (madeH A Hd) A.n < A.room) := by
  unfold madeH
  split
  · next h => exact ⟨Nat.le_refl _, fun _ _ => h⟩
  · next h =>
    by_cases h0 : 0 < many Hd A.n
    · obtain ⟨h1, h2⟩ := best_in h0
      have h3 := many_upd Hd _ [] A.n h1
      have h4 : 0 < (Hd (bestOf (holds Hd A.n)).1).length := List.length_pos_iff.2 h2
      simp at h3
      exact ⟨by omega, fun _ _ => by omega⟩
    · refine ⟨?_, fun hr _ => by omega⟩
      by_cases hb : (bestOf (holds Hd A.n)).1 < A.n
      · have h3 := many_upd Hd _ [] A.n hb
        simp at h3
        omega
      · have : many (upd Hd (bestOf (holds Hd A.n)).1 []) A.n = many Hd A.n := by
          unfold many
          congr 1
          refine List.map_congr_left (fun j hj => ?_)
          rw [upd_other _ (by have := List.mem_range.1 hj; omega)]
        omega
theorem went_refl {A : Pa} {off : Bool} {w w' : World} {Qs : Nat → Prop} {hv : Nat → Option Value} {S Hd : Rows} (h : Pl A off w Qs hv S Hd) (hB : Below w.heap.size w w') : Went A off (allQ A Qs hv) w w' S Hd (fun _ => False) :=
  ⟨Qs, hv, h.later hB, fun k hk => .inl hk, fun k h => h.elim, Upon.of_below hB⟩
theorem makes_any {A : Pa} {w : World} {Qs : Nat → Prop} {hv : Nat → Option Value} {S Hd : Rows} (h : Pl A false w Qs hv S Hd) (hroom : 1 ≤ A.room) (hlen : ∀ j, j < A.n → (S j).length + (Hd j).length ≤ 30000) (hmany : many Hd A.n ≤ 1000000) :
    Calls Tryz.prog 24 #[.pointer (some ⟨A.p, 0, none⟩)] w fun e w' => e = .returned (.int .i64 0) ∧ Went A false (allQ A Qs hv) w w' (madeS A S Hd) (madeH A Hd) (fun _ => False) := by
  by_cases hr : many Hd A.n < A.room
  · refine (makes_room h hr).mono ?_
    rintro e w' ⟨rfl, hB⟩
    refine ⟨rfl, ?_⟩
    unfold madeS madeH
    rw [if_pos hr, if_pos hr]
    exact went_refl h hB
  · obtain ⟨h1, h2⟩ := best_in (Hd := Hd) (n := A.n) (by omega)
    refine (makes_full h (by omega) hmany (fun x W w' => x = 0 ∧ Went A false (allQ A Qs hv) W w' (upd S (bestOf (holds Hd A.n)).1 (S (bestOf (holds Hd A.n)).1 ++ Hd (bestOf (holds Hd A.n)).1)) (upd Hd (bestOf (holds Hd A.n)).1 []) (fun _ => False)) (fun W hW => ?_) (fun x W w1 hW hR k hk1 hk2 => ?_)).mono ?_
    · refine (spill_some (h.later hW) _ h1 h2 (hlen _ h1) hmany).mono ?_
      rintro e w' ⟨rfl, hw⟩
      exact ⟨0, rfl, rfl, hw⟩
    · obtain ⟨_, _, _, _, _, _, hu⟩ := hR
      exact hu.block k hk2 (fun hq => by have := h.lt k hq; omega)
    · rintro e w' ⟨x, W, w1, D, rfl, hB, ⟨rfl, hw⟩, hD1, hD2, _, rfl⟩
      refine ⟨rfl, ?_⟩
      unfold madeS madeH
      rw [if_neg hr, if_neg hr]
      exact hw.put hB h.lt hD1 hD2 _
set_option maxHeartbeats 1000000 in
set_option maxRecDepth 100000 in
theorem put_gen {A : Pa} {off : Bool} {w : World} {Qs : Nat → Prop} {hv : Nat → Option Value} {S Hd S1 H1 : Rows} (h : Pl A off w Qs hv S Hd) (i : Nat) (hi : i < A.n) (x : List Nat) (hx : ok x)
    (hmk : ∀ W, Below w.heap.size w W → Calls Tryz.prog 24 #[.pointer (some ⟨A.p, 0, none⟩)] W fun e w' => e = .returned (.int .i64 0) ∧ Went A off (allQ A Qs hv) W w' S1 H1 (fun _ => False)) (hl1 : (H1 i).length ≤ 30000) (hm1 : many H1 A.n ≤ 1000000) :
    Calls Tryz.prog 8 #[.pointer (some ⟨A.p, 0, none⟩), .int .i64 (i : Int), .agg (vals x).toArray] w fun e w' => e = .returned (.int .i64 0) ∧ Went A off (allQ A Qs hv) w w' S1 (upd H1 i (H1 i ++ [x])) (fun _ => False) := by
  obtain ⟨a, b, c, d, e, f, g, rfl⟩ := ok_seven hx
  have hal := (Below.refl w.heap.size w).alloc (Nat.le_refl _) (.cells (vals [a, b, c, d, e, f, g]).toArray 38)
  have hb := Blk.new w 38 (vals [a, b, c, d, e, f, g]).toArray
  have h1 := h.later hal
  have HT := Lib.hid (there_in h1 i hi)
  have HM := Lib.hid (hmk _ hal)
  have H := Lib.hid h
  have HAL := Lib.hid hal
  have HBX := Lib.hid hb
  have HOKX := Lib.hid hx
  have HMY := Lib.hid hm1
  clear h hal hb h1 hx hmk hm1
  simp only [vals, List.map] at HBX HAL HM HT ⊢
  obtain ⟨i0, hi0, hz0, hz1, hz2⟩ := info_parts infoW7
  go_enter Tryz.func8, Tryz.ntmps8
  go_wp2_with fail
  refine HT.out.mono ?_
  rintro e1 w1 ⟨rfl, rfl⟩
  go_wp2_with fail
  refine HM.out.mono ?_
  rintro e2 w2 ⟨rfl, Qs2, hv2, hp2, hq2, _, hu2⟩
  go_wp2_with fail
  have hbx := HBX.out
  have hbx2 : Blk w2 w.heap.size 38 #[.int .u32 (a : Int), .int .u32 (b : Int), .int .u32 (c : Int), .int .u32 (d : Int), .int .u32 (e : Int), .int .u32 (f : Int), .int .u32 (g : Int)] := (hu2.block _ hbx.lt (fun hk => absurd (H.out.lt _ hk) (Nat.lt_irrefl _))).trans hbx
  have hS : ∀ W : World, W.heap[A.p]? = w2.heap[A.p]? → W.heap[w.heap.size]? = w2.heap[w.heap.size]? → W.cell? ⟨A.p, 4, none⟩ = some (.map (some A.hm)) ∧ W.cell? ⟨w.heap.size, 0, none⟩ = some (.int .u32 (a : Int)) ∧ W.cell? ⟨w.heap.size, 1, none⟩ = some (.int .u32 (b : Int)) ∧ W.cell? ⟨w.heap.size, 2, none⟩ = some (.int .u32 (c : Int)) ∧ W.cell? ⟨w.heap.size, 3, none⟩ = some (.int .u32 (d : Int)) ∧ W.cell? ⟨w.heap.size, 4, none⟩ = some (.int .u32 (e : Int)) ∧ W.cell? ⟨w.heap.size, 5, none⟩ = some (.int .u32 (f : Int)) ∧ W.cell? ⟨w.heap.size, 6, none⟩ = some (.int .u32 (g : Int)) := fun W e1 e2 => by
    have p1 : Blk W A.p _ _ := e1.trans hp2.pool
    have p2 : Blk W w.heap.size _ _ := e2.trans hbx2
    refine ⟨p1.cell 4, p2.cell 0, p2.cell 1, p2.cell 2, p2.cell 3, p2.cell 4, p2.cell 5, p2.cell 6⟩
  obtain ⟨L, hL⟩ : ∃ L, L = H1 i := ⟨_, rfl⟩
  obtain ⟨v, hve, hO, _⟩ := hp2.heldAt i hi
  have hl := hp2.drew.heldAt' i hi
  rw [hve] at hl
  rw [← hL] at hO
  have hal2 := Below.drew ((Below.refl w2.heap.size w2).alloc (Nat.le_refl _) (.cells #[.int .u32 (a : Int), .int .u32 (b : Int), .int .u32 (c : Int), .int .u32 (d : Int), .int .u32 (e : Int), .int .u32 (f : Int), .int .u32 (g : Int)] 38))
  have hl2 := (hp2.later hal2).heldAt' i hi
  rw [hve] at hl2
  have hll : L.length ≤ 30000 := by rw [hL]; exact hl1
  obtain ⟨n, hn⟩ : ∃ n, n = L.length := ⟨_, rfl⟩
  rw [← hn] at hll
  have hO2 : (w2.alloc (.cells #[.int .u32 (a : Int), .int .u32 (b : Int), .int .u32 (c : Int), .int .u32 (d : Int), .int .u32 (e : Int), .int .u32 (f : Int), .int .u32 (g : Int)] 38)).drew.ownsRow 0 38 7 v n (flatW L) := by rw [hn]; exact own_later hO hal2
  have hnews : ∀ j u, ([.int .u32 (a : Int), .int .u32 (b : Int), .int .u32 (c : Int), .int .u32 (d : Int), .int .u32 (e : Int), .int .u32 (f : Int), .int .u32 (g : Int)] : List Value)[j]? = some u → (w2.alloc (.cells #[.int .u32 (a : Int), .int .u32 (b : Int), .int .u32 (c : Int), .int .u32 (d : Int), .int .u32 (e : Int), .int .u32 (f : Int), .int .u32 (g : Int)] 38)).drew.cell? ((⟨w2.heap.size, 0, none⟩ : Addr).add j) = some u := World.news_of_block (heap_alloc_new w2 _)
  have hone : ∀ u ∈ ([.int .u32 (a : Int), .int .u32 (b : Int), .int .u32 (c : Int), .int .u32 (d : Int), .int .u32 (e : Int), .int .u32 (f : Int), .int .u32 (g : Int)] : List Value), u.oneCell' = true := fun u hu => by
    simp only [List.mem_cons, List.not_mem_nil, or_false] at hu
    rcases hu with rfl | rfl | rfl | rfl | rfl | rfl | rfl <;> rfl
  have hvA : ∀ k, v.ownBlock = some k → allQ A Qs2 hv2 k := fun k hk => by
    cases hc : hv2 i with
    | none => rw [hc] at hve; rw [← hve] at hk; cases hk
    | some u =>
      rw [hc] at hve
      exact .inr (.inr ⟨i, u, hi, hc, by rw [show u = v from hve]; exact hk⟩)
  have hvp : some A.p ≠ v.ownBlock := fun e => own_ne_blk hO hp2.pool (by decide) e.symm
  have hvb : some w.heap.size ≠ v.ownBlock := fun e => by
    rcases hq2 _ (hvA _ e.symm) with h3 | h3
    · exact absurd (H.out.lt _ h3) (Nat.lt_irrefl _)
    · exact absurd h3 (by simp)
  have hvh : some A.hm ≠ v.ownBlock := fun e => by
    cases hc : hv2 i with
    | none => rw [hc] at hve; rw [← hve] at e; cases e
    | some u =>
      rw [hc] at hve
      exact (hp2.outside i u A.hm hi hc (by rw [show u = v from hve]; exact e.symm)).2 (.inr (.inr rfl))
  obtain ⟨_, hmh, _, _⟩ := hp2.held
  have hhl := hmh.lt
  have hpl := hp2.pool.lt
  have hbl := hbx2.lt
  have hS0 := hS w2.drew rfl rfl
  have hS1 := hS (w2.alloc (.cells #[.int .u32 (a : Int), .int .u32 (b : Int), .int .u32 (c : Int), .int .u32 (d : Int), .int .u32 (e : Int), .int .u32 (f : Int), .int .u32 (g : Int)] 38)).drew (hal2.block _ hpl) (hal2.block _ hbl)
  have HS := Lib.hid hS
  have HP2 := Lib.hid hp2
  have HQ2 := Lib.hid hq2
  have HU2 := Lib.hid hu2
  have HO2 := Lib.hid hO2
  have HN := Lib.hid hnews
  have HONE := Lib.hid hone
  have HVP := Lib.hid hvp
  have HVB := Lib.hid hvb
  have HVH := Lib.hid hvh
  have HVA := Lib.hid hvA
  have HVE := Lib.hid hve
  have HA2 := Lib.hid hal2
  have HLN := Lib.hid hn
  have HLL := Lib.hid hL
  have HOV := Lib.hid hO
  have hphm : A.p ∉ [A.hm] := by
    have := map_ne_blk hmh hp2.pool
    simpa using this.symm
  have hbhm : w.heap.size ∉ [A.hm] := by
    have : A.hm < w.heap.size := H.out.lt _ (.inr (.inl (.inr (.inr rfl))))
    simp
    omega
  have HPH := Lib.hid hphm
  have HBH := Lib.hid hbhm
  clear hbx hbx2 hS hp2 hq2 hu2 hO2 hnews hone hvp hvb hvh hvA hve hal2 hn hL hO hphm hbhm hmh
  go_region_held3 (fun w' => w'.cell? ⟨A.p, 4, none⟩ = some (.map (some A.hm)) ∧ w'.cell? ⟨w.heap.size, 0, none⟩ = some (.int .u32 (a : Int)) ∧ w'.cell? ⟨w.heap.size, 1, none⟩ = some (.int .u32 (b : Int)) ∧ w'.cell? ⟨w.heap.size, 2, none⟩ = some (.int .u32 (c : Int)) ∧ w'.cell? ⟨w.heap.size, 3, none⟩ = some (.int .u32 (d : Int)) ∧ w'.cell? ⟨w.heap.size, 4, none⟩ = some (.int .u32 (e : Int)) ∧ w'.cell? ⟨w.heap.size, 5, none⟩ = some (.int .u32 (f : Int)) ∧ w'.cell? ⟨w.heap.size, 6, none⟩ = some (.int .u32 (g : Int))) (first | exact hS0 | exact hS1 | exact hS3 | exact hS4) ((refine step_append_lies _ rfl (.tmp 27) (.tmp 29) 22 rfl 0 38 i0 (.agg #[.int .u32 0, .int .u32 0, .int .u32 0, .int .u32 0, .int .u32 0, .int .u32 0, .int .u32 0]) 7 28 Tryz.underlying22 hi0 hz0 hz1 hz2 rfl (by decide) v n (flatW L) (by simp [Act.eval]) HO2.out ⟨w2.heap.size, 0, none⟩ 1 1 [.int .u32 (a : Int), .int .u32 (b : Int), .int .u32 (c : Int), .int .u32 (d : Int), .int .u32 (e : Int), .int .u32 (f : Int), .int .u32 (g : Int)] (by simp [Act.eval]) rfl HN.out HONE.out (by decide) (by unfold maxLen; omega) (by omega) (Nat.zero_le _) _ rfl ?_; intro g3 cap3 w3 hown3 hgrow3 hat3 hlt3; have hz3 := hgrow3.size; have hS3 := HS.out w3 ((hgrow3.block A.p (Nat.lt_of_lt_of_le hpl HA2.out.size) HVP.out).trans (HA2.out.block _ hpl)) ((hgrow3.block _ (Nat.lt_of_lt_of_le hbl HA2.out.size) HVB.out).trans (HA2.out.block _ hbl)); obtain ⟨w4, f4, hrun4, hm4, hs4, hf4, hfo4, ho4, hz4⟩ := HP2.out.hold (w1 := w3) ((hgrow3.block A.hm (Nat.lt_of_lt_of_le hhl HA2.out.size) HVH.out).trans (HA2.out.block _ hhl)) i hi (.slice (some ⟨g3, 0, none⟩) (n + 1) cap3); have hl3 : w2.heap.size < w3.heap.size := (by have := HA2.out.size; simp at hz3; omega); have hS4 := HS.out w4 ((ho4.block A.p (Nat.lt_trans hpl hl3) HPH.out).trans ((hgrow3.block A.p (Nat.lt_of_lt_of_le hpl HA2.out.size) HVP.out).trans (HA2.out.block _ hpl))) ((ho4.block _ (Nat.lt_trans hbl hl3) HBH.out).trans ((hgrow3.block _ (Nat.lt_of_lt_of_le hbl HA2.out.size) HVB.out).trans (HA2.out.block _ hbl)))))
  all_goals
    obtain ⟨M, hM⟩ : ∃ M, M = many (H1) A.n := ⟨_, rfl⟩
    have hM1 : M ≤ 1000000 := by rw [hM]; exact HMY.out
    have hW2 := HA2.out.size
    have e3 := (hgrow3.block A.p (Nat.lt_of_lt_of_le hpl hW2) HVP.out).trans (HA2.out.block _ hpl)
    have hb4 : Blk w4 A.p _ _ := ((ho4.block A.p (Nat.lt_trans hpl hl3) HPH.out).trans e3).trans HP2.out.pool
    rw [← hM] at hb4
    have k5 := hb4.cell 5
    have f5 := hb4.frozen 5
    simp at k5
    have hb5 := hb4.set 5 (.int .i64 ((M : Int) + 1))
    have hsub : IntKind.i64.wrap ((M : Int) + 1) = (M : Int) + 1 := IntWalk.i64_in _ (by omega)
    have hg3 : g3 ≠ A.hm := fun e => by
      rcases hat3 with e1 | e1
      · rw [e] at e1
        exact HVH.out e1.symm
      · simp at hW2
        rw [e1] at e
        simp at e
        omega
    have hown4 := own_only hown3 ho4 (fun q hq => by
      have : g3 = q := by simpa [Value.ownBlock] using hq
      rw [← this]
      simpa using hg3)
    have hown5 := own_past hown4 hb4 (by decide) 5 (.int .i64 ((M : Int) + 1))
    have hvi : ∀ k, v.ownBlock = some k → ∃ v0, hv2 i = some v0 ∧ v0.ownBlock = some k := fun k hk => by
      have hve := HVE.out
      cases hc : hv2 i with
      | none => rw [hc] at hve; rw [← hve] at hk; cases hk
      | some u =>
        rw [hc] at hve
        exact ⟨u, rfl, by rw [show u = v from hve]; exact hk⟩
    have ho5 : Only (A.p :: A.hm :: v.ownBlock.toList) w2 (w4.setCell ⟨A.p, 5, none⟩ (.int .i64 ((M : Int) + 1))) :=
      (((Only.of_below HA2.out).trans (Only.of_grown hgrow3 (fun q hq => .inl (by rw [hq]; simp)))).trans (ho4.mono (by simp))).set (.inl (by simp)) _
    have hub : ∀ u k, some (Value.slice (some ⟨g3, 0, none⟩) (n + 1) cap3) = some u → u.ownBlock = some k → (∃ v0, hv2 i = some v0 ∧ v0.ownBlock = some k) ∨ w2.heap.size ≤ k := fun u k hu hk => by
      injection hu with hu
      rw [← hu] at hk
      have : g3 = k := by simpa [Value.ownBlock] using hk
      subst this
      rcases hat3 with e1 | e1
      · exact .inl (hvi _ e1)
      · exact .inr (by rw [e1]; exact hW2)
    have hmu := many_upd (H1) i (L ++ [[a, b, c, d, e, f, g]]) A.n hi
    rw [← hM, ← HLL.out, List.length_append] at hmu
    simp at hmu
    have hfl : flatW (L ++ [[a, b, c, d, e, f, g]]) = flatW L ++ [.int .u32 (a : Int), .int .u32 (b : Int), .int .u32 (c : Int), .int .u32 (d : Int), .int .u32 (e : Int), .int .u32 (f : Int), .int .u32 (g : Int)] := by rw [flatW_append]; rfl
    have hfin := HP2.out.holding hi ho5 (fun k hk => by
      rcases List.mem_cons.1 hk with e1 | hk
      · exact .inl e1
      · rcases List.mem_cons.1 hk with e1 | hk
        · exact .inr (.inl e1)
        · exact .inr (.inr (.inl (hvi k (by simpa using hk))))) (L ++ [[a, b, c, d, e, f, g]]) (by
        have e1 : ((many (upd (H1) i (L ++ [[a, b, c, d, e, f, g]])) A.n : Nat) : Int) = (M : Int) + 1 := by omega
        rw [e1]
        simpa using hb5) (hm4.keep (Below.heap_setCell _ _ _ _ (map_ne_blk hm4 hb4))) hs4 (some (Value.slice (some ⟨g3, 0, none⟩) (n + 1) cap3)) (by
        show _ = _ ∧ _
        rw [hfl]
        have e1 : (L ++ [[a, b, c, d, e, f, g]]).length = n + 1 := by rw [List.length_append, ← HLN.out]; rfl
        rw [e1]
        exact hown5) hf4 hfo4 hub (fun y hy => by
        rcases List.mem_append.1 hy with hy | hy
        · rw [HLL.out] at hy
          exact HP2.out.okH i hi y hy
        · rw [List.mem_singleton.1 hy]
          exact HOKX.out)
    have hall := allQ_holding (A := A) (Qs := Qs2) hub hi
    rw [HLL.out] at hfin
    have hz1' := HAL.out.size
    have hz2' := HU2.out.size
    have hwent : Went A off (allQ A Qs hv) w (w4.setCell ⟨A.p, 5, none⟩ (.int .i64 ((M : Int) + 1))) (S1) (upd (H1) i (H1 i ++ [[a, b, c, d, e, f, g]])) (fun _ => False) := by
      refine ⟨_, _, hfin, fun k hk => ?_, fun k h => h.elim, ?_⟩
      · rcases hall k hk with h3 | h3
        · rcases HQ2.out k h3 with h4 | h4
          · exact .inl h4
          · exact .inr (by omega)
        · exact .inr (by omega)
      · refine ((Upon.of_below (P := allQ A Qs hv) HAL.out).trans HU2.out (fun k hk => .inl hk)).trans (Q := allQ A Qs2 hv2) (Upon.of_only ho5 (fun k hk => ?_)) (fun k hk => ?_)
        · rcases List.mem_cons.1 hk with e1 | hk
          · exact .inl (.inr (.inl (.inl e1)))
          · rcases List.mem_cons.1 hk with e1 | hk
            · exact .inl (.inr (.inl (.inr (.inr e1))))
            · exact .inl (HVA.out k (by simpa using hk))
        · rcases HQ2.out k hk with h4 | h4
          · exact .inl h4
          · exact .inr (by omega)
    have HW := Lib.hid hwent
    clear hwent hall hfin hfl hmu hub ho5 hvi hown5 hown4 hg3 hb5 hM hM1 hb4 e3 hown3 hgrow3 hat3 hlt3 hm4 hs4 hf4 hfo4 ho4 hz4 hrun4 hS3 hS4 hS0 hS1 hl hl2 hz3
    go_wp2_with fail
    go_ret
    exact ⟨rfl, HW.out⟩
theorem put_any {A : Pa} {w : World} {Qs : Nat → Prop} {hv : Nat → Option Value} {S Hd : Rows} (h : Pl A false w Qs hv S Hd) (i : Nat) (hi : i < A.n) (x : List Nat) (hx : ok x) (hroom : 1 ≤ A.room) (hlen : ∀ j, j < A.n → (S j).length + (Hd j).length ≤ 30000) (hmany : many Hd A.n ≤ 1000000) :
    Calls Tryz.prog 8 #[.pointer (some ⟨A.p, 0, none⟩), .int .i64 (i : Int), .agg (vals x).toArray] w fun e w' => e = .returned (.int .i64 0) ∧ Went A false (allQ A Qs hv) w w' (madeS A S Hd) (upd (madeH A Hd) i (madeH A Hd i ++ [x])) (fun _ => False) :=
  put_gen h i hi x hx (fun W hW => makes_any (h.later hW) hroom hlen hmany) (by have := made_len A S Hd i; have := hlen i hi; omega) (Nat.le_trans (made_many A Hd).1 hmany)
/-- Where there is room: whatever the disk. -/
theorem put_room {A : Pa} {off : Bool} {w : World} {Qs : Nat → Prop} {hv : Nat → Option Value} {S Hd : Rows} (h : Pl A off w Qs hv S Hd) (i : Nat) (hi : i < A.n) (x : List Nat) (hx : ok x) (hr : many Hd A.n < A.room) (hl : (Hd i).length ≤ 30000) :
    Calls Tryz.prog 8 #[.pointer (some ⟨A.p, 0, none⟩), .int .i64 (i : Int), .agg (vals x).toArray] w fun e w' => e = .returned (.int .i64 0) ∧ Went A off (allQ A Qs hv) w w' S (upd Hd i (Hd i ++ [x])) (fun _ => False) :=
  put_gen h i hi x hx (fun W hW => (makes_room (h.later hW) hr).mono fun e w' he => ⟨he.1, went_refl (h.later hW) he.2⟩) hl (by have := h.top.2; omega)
end Go.Proofs.YtfgjnpbffppocaaGreat.Pool
