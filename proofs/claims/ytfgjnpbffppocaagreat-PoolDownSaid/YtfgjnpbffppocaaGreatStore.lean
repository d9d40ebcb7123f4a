/- Layer 10: a store of which nothing was committed: its disk is blank, its files are its changes. -/
import Derived.Test.YtfgjnpbffppocaaGreatManRead
import Derived.Test.YtfgjnpbffppocaaGreatMap
namespace Go.Proofs.YtfgjnpbffppocaaGreat.Store
open Go.RowKit Go.Deep Mem Crc Disk Man

/-- What was changed of a file: not (none), gone (some none), its bytes. -/
abbrev Chg := List UInt8 → Option (Option (List UInt8))
/-- A change as the map holds it. -/
def chgV (w : World) (Q : Nat → Prop) : Option (List UInt8) → Value → Prop
  | none, v => v = .agg #[.slice none 0 0, .bool true]
  | some b, v => ∃ a cp, v = .agg #[.slice a b.length cp, .bool false] ∧ b.length ≤ cp ∧ Lies w a (b.map bv) ∧ ∀ g, blk a = some g → Q g
def isChg (w : World) (Q : Nat → Prop) (f : Lit → Option Value) (C : Chg) (nm : List UInt8) : Prop :=
  match C nm with
  | none => f (.string nm) = none
  | some c => ∃ v, f (.string nm) = some v ∧ chgV w Q c v
/-- A store at block s, over the disk d with its row g; its changes' map cm; all its blocks are in Q. -/
structure St (w : World) (Q : Nat → Prop) (s d g N cm : Nat) (off : Bool) (C : Chg) : Prop where
  store : Blk w s 72 #[.pointer (some ⟨d, 0, none⟩), .int .u64 0, .int .u32 0, .slice none 0 0, .map (some cm), .bool false]
  disk : Blank w d g N off
  map : ∃ f, MapIs w 9 cm f ∧ (∀ x, f x ≠ none → ∃ nm, x = .string nm) ∧ ∀ nm, isChg w (fun k => Q k ∧ k ≠ cm) f C nm
  qs : Q s
  qd : Q d
  qg : Q g
  qm : Q cm
  lt : ∀ k, Q k → k < w.heap.size
theorem chgV.keep {w w' : World} {Q Q' : Nat → Prop} {c : Option (List UInt8)} {v : Value} (h : chgV w Q c v) (hs : w.heap.size ≤ w'.heap.size) (hk : ∀ k, Q k → w'.heap[k]? = w.heap[k]?) (hQ : ∀ k, Q k → Q' k) : chgV w' Q' c v := by
  cases c with
  | none => exact h
  | some b =>
    obtain ⟨a, cp, e, h1, h2, h3⟩ := h
    exact ⟨a, cp, e, h1, h2.keep hs (fun g hg => hk g (h3 g hg)), fun g hg => hQ g (h3 g hg)⟩
theorem isChg.keep {w w' : World} {Q Q' : Nat → Prop} {f : Lit → Option Value} {C : Chg} {nm : List UInt8} (h : isChg w Q f C nm) (hs : w.heap.size ≤ w'.heap.size) (hk : ∀ k, Q k → w'.heap[k]? = w.heap[k]?) (hQ : ∀ k, Q k → Q' k) : isChg w' Q' f C nm := by
  unfold isChg at h ⊢
  cases hc : C nm with
  | none => rw [hc] at h; exact h
  | some c =>
    rw [hc] at h
    obtain ⟨v, h1, h2⟩ := h
    exact ⟨v, h1, h2.keep hs hk hQ⟩
theorem St.keep {w w' : World} {Q : Nat → Prop} {s d g N cm : Nat} {off : Bool} {C : Chg} (h : St w Q s d g N cm off C) (hs : w.heap.size ≤ w'.heap.size) (hk : ∀ k, Q k → w'.heap[k]? = w.heap[k]?) : St w' Q s d g N cm off C := by
  obtain ⟨f, h1, h2, h3⟩ := h.map
  exact ⟨(hk s h.qs).trans h.store, h.disk.keep (hk d h.qd) (hk g h.qg), ⟨f, h1.keep (hk cm h.qm), h2, fun nm => (h3 nm).keep hs (fun k hq => hk k hq.1) (fun _ h => h)⟩, h.qs, h.qd, h.qg, h.qm, fun k hq => Nat.lt_of_lt_of_le (h.lt k hq) hs⟩
theorem St.later {w w' : World} {Q : Nat → Prop} {s d g N cm : Nat} {off : Bool} {C : Chg} (h : St w Q s d g N cm off C) (hB : Below w.heap.size w w') : St w' Q s d g N cm off C := h.keep hB.size (fun k hq => hB.block k (h.lt k hq))
theorem St.only {w w' : World} {Q : Nat → Prop} {s d g N cm : Nat} {off : Bool} {C : Chg} {F : List Nat} (h : St w Q s d g N cm off C) (ho : Only F w w') (hF : ∀ k ∈ F, ¬ Q k) : St w' Q s d g N cm off C := h.keep ho.size (fun k hq => ho.block k (h.lt k hq) (fun hm => hF k hm hq))
/-- Nothing is changed. -/
def none' : Chg := fun _ => none
set_option maxHeartbeats 400000 in
set_option maxRecDepth 100000 in
theorem open_any {d g N : Nat} (hN : 33 ≤ N) {w : World} (h : Blank w d g N false) :
    Calls Tryz.prog 19 #[.pointer (some ⟨d, 0, none⟩)] w fun e w' => ∃ s cm, e = .returned (.tuple #[.pointer (some ⟨s, 0, none⟩), .int .i64 0]) ∧ St w' (fun k => k = s ∨ k = d ∨ k = g ∨ k = cm) s d g N cm false none' ∧ w.heap.size ≤ s ∧ w.heap.size ≤ cm ∧ Below w.heap.size w w' := by
  have hal := (Below.refl w.heap.size w).alloc (Nat.le_refl _) (Obj.cells #[Value.pointer (some ⟨d, 0, none⟩)] 26)
  have HM := Lib.hid (read_blank hN (h.later hal))
  have H := Lib.hid h
  have HA := Lib.hid hal
  have hbd := Blk.new w 26 #[Value.pointer (some ⟨d, 0, none⟩)]
  have HBD := Lib.hid hbd
  clear h hal hbd
  go_enter Tryz.func19, Tryz.ntmps19
  go_wp2_with fail
  refine HM.out.mono ?_
  rintro e w1 ⟨rfl, hB1⟩
  have c0 := (hB1.cell (p := ⟨w.heap.size, 0, none⟩) HBD.out.lt).trans (HBD.out.cell 0)
  simp at c0
  have HB1 := Lib.hid hB1
  have hs1 := hB1.size
  simp at hs1
  clear hB1
  go_wp2_with fail
  obtain ⟨W, hW⟩ : ∃ W, W = w1.alloc (.cells #[.int .u64 0, .int .u32 0, .slice none 0 0] 69) := ⟨_, rfl⟩
  have hb := Blk.new w1 69 #[.int .u64 0, .int .u32 0, .slice none 0 0]
  rw [← hW] at hb ⊢
  have m0 := hb.cell 0
  have m1 := hb.cell 1
  have m2 := hb.cell 2
  have d0 : W.cell? ⟨w.heap.size, 0, none⟩ = some (.pointer (some ⟨d, 0, none⟩)) := by rw [hW]; exact (((Below.refl w1.heap.size w1).alloc (Nat.le_refl _) _).cell (p := ⟨w.heap.size, 0, none⟩) (by show w.heap.size < _; omega)).trans c0
  simp at m0 m1 m2
  have hBW : Below w.heap.size w W := by rw [hW]; exact (HA.out.trans (HB1.out.mono (by simp))).alloc (by omega) _
  have hWs : w.heap.size < W.heap.size := by rw [hW]; simp; omega
  have HBW := Lib.hid hBW
  clear hb hW HB1 HA HM HBD hBW c0
  go_loopw [20] (fun i wr => i = .int .i64 0 ∧ wr = W) (fun _ _ => 0)
  case atStart => exact ⟨rfl, rfl⟩
  case round =>
    obtain ⟨rfl, rfl⟩ := hrel
    have hmk := run_makeMap (P := Tryz.prog) 70 wr
    go_wp2_with fail
    go_ret2
    have hsz := HBW.out.size
    have hB2 : Below wr.heap.size wr ((wr.alloc (.map #[] 0)).alloc (.cells #[.pointer (some ⟨d, 0, none⟩), .int .u64 0, .int .u32 0, .slice none 0 0, .map (some wr.heap.size), .bool false] 72)) := ((Below.refl _ wr).alloc (Nat.le_refl _) _).alloc (by simp) _
    have hD := (H.out.later HBW.out).later hB2
    have hmap : MapIs ((wr.alloc (.map #[] 0)).alloc (.cells #[.pointer (some ⟨d, 0, none⟩), .int .u64 0, .int .u32 0, .slice none 0 0, .map (some wr.heap.size), .bool false] 72)) 9 wr.heap.size (fun _ => none) := (MapIs.made wr _).keep (Below.heap_alloc _ _ _ (by simp))
    refine ⟨wr.heap.size + 1, wr.heap.size, rfl, ⟨Blk.at_ (by simp), hD, ⟨_, hmap, fun x h => absurd rfl h, fun nm => rfl⟩, .inl rfl, .inr (.inl rfl), .inr (.inr (.inl rfl)), .inr (.inr (.inr rfl)), fun k hk => ?_⟩, by omega, hsz, HBW.out.trans (hB2.mono hsz)⟩
    have h1 := hD.disk.lt
    have h2 := hD.row.lt
    rcases hk with rfl | rfl | rfl | rfl
    · simp
    · exact h1
    · exact h2
    · simp; omega
theorem down_any {w : World} {Q : Nat → Prop} {s d g N cm : Nat} {off : Bool} {C : Chg} (h : St w Q s d g N cm off C) :
    Calls Tryz.prog 59 #[.pointer (some ⟨s, 0, none⟩)] w fun e w' => e = .returned (.bool off) ∧ w' = w := by
  have c0 := h.store.cell 0
  have c5 := h.store.cell 5
  simp at c0 c5
  have HO := Lib.hid (on_any h.disk)
  clear h
  go_enter Tryz.func59, Tryz.ntmps59
  go_wp2_with fail
  refine HO.out.mono ?_
  rintro e w1 ⟨rfl, rfl⟩
  go_wp2_with fail
  go_ret
  exact ⟨by simp, rfl⟩
end Go.Proofs.YtfgjnpbffppocaaGreat.Store
