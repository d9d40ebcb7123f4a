/- Layer 7: flip. -/
import Derived.Test.YtdpfhpecidmllaaDoorOps
import Derived.StillTailTactics
namespace Go.Proofs.YtdpfhpecidmllaaDoor.Ext
open Go.RowKit Go.Shelf Mem
/-- A word with a bit turned. -/
def turned (x i : Int) : Int := bits .xor .u64 x (IntKind.u64.wrap (2 ^ (i % 64).toNat))
/-- Is the bit set behind it? -/
def setIn (x i : Int) : Bool := bits .and .u64 (turned x i / 2 ^ (i % 64).toNat) 1 == 1
/-- As many as are taken behind it. -/
def next : Bool → Int → Int
  | true, t => t + 1
  | false, t => t - 1
set_option maxHeartbeats 2000000 in
theorem flip_any (C g m cap : Nat) (count taken i : Int) (cs : Array Value) (x : Int) (w : World) (h : Blk w C 46 #[.slice (some ⟨g, 0, none⟩) m cap, .int .i64 count, .int .i64 taken]) (hg : Blk w g 48 cs) (hc : 0 ≤ count ∧ count ≤ 65536) (ht : 0 ≤ taken ∧ taken ≤ 65536)
    (h0 : 0 ≤ i) (h1 : i < count) (hm : (i / 64).toNat < m) (hx : cs[(i / 64).toNat]? = some (.int .u64 x)) :
    Calls Tryd.prog 26 #[.pointer (some ⟨C, 0, none⟩), .int .i64 i] w fun e w' => e = .returned (.tuple #[]) ∧ Blk w' C 46 #[.slice (some ⟨g, 0, none⟩) m cap, .int .i64 count, .int .i64 (next (setIn x i) taken)] ∧ Blk w' g 48 (cs.setIfInBounds (i / 64).toNat (.int .u64 (turned x i))) ∧ Only [C, g] w w' := by
  have c0 := h.cell 0
  have c2 := h.cell 2
  simp at c0 c2
  have hxc := (hg.cell (i / 64).toNat).trans hx
  have fz := hg.frozen (i / 64).toNat
  have t0 : i.tdiv 64 = i / 64 := Int.tdiv_eq_ediv_of_nonneg h0
  have t1 : i.tmod 64 = i % 64 := Int.tmod_eq_emod_of_nonneg h0
  have u0 : IntKind.i64.wrap (i / 64) = i / 64 := IntWalk.i64_in _ (by omega)
  have u1 : IntKind.i64.wrap (i % 64) = i % 64 := IntWalk.i64_in _ (by omega)
  have t2 : (0 : Int) ≤ i % 64 := by omega
  have t3 : i % 64 < 64 := by omega
  have t4 : ¬ i % 64 < 0 := by omega
  have d0 : (0 : Int) ≤ i / 64 := by omega
  have d1 : i / 64 < (m : Int) := by omega
  obtain ⟨x', hx'⟩ : ∃ x', x' = bits .xor .u64 x (IntKind.u64.wrap (2 ^ (i % 64).toNat)) := ⟨_, rfl⟩
  have hne : C ≠ g := h.ne hg (by decide)
  have hW : Blk (w.drew.setCell ⟨g, (i / 64).toNat, none⟩ (.int .u64 x')) C 46 #[.slice (some ⟨g, 0, none⟩) m cap, .int .i64 count, .int .i64 taken] := h.drew.far hne _
  have hG := hg.drew.set (i / 64).toNat (.int .u64 x')
  have hsz : (i / 64).toNat < cs.size := (Array.getElem?_eq_some_iff.1 hx).1
  have hxn := (hG.cell (i / 64).toNat).trans (by simp [hsz] : _ = some (.int .u64 x'))
  have HI := Lib.hid (is_any C g m cap count taken i x' _ hW hc h0 h1 hm hxn)
  have k2 := hW.cell 2
  simp at k2
  have fz2 := hW.frozen 2
  have fz3 : (w.setCell ⟨g, (i / 64).toNat, none⟩ (.int .u64 x')).frozen? ⟨C, 2, none⟩ = false := hW.frozen 2
  have fz4 := hW.drew.frozen 2
  have k3 : (w.setCell ⟨g, (i / 64).toNat, none⟩ (.int .u64 x')).cell? ⟨C, 2, none⟩ = some (.int .i64 taken) := k2
  rw [hx'] at HI k2 fz2 fz3 fz4 k3
  have w1' : IntKind.i64.wrap (taken + 1) = taken + 1 := IntWalk.i64_in _ (by omega)
  have w2' : IntKind.i64.wrap (taken - 1) = taken - 1 := IntWalk.i64_in _ (by omega)
  go_enter Tryd.func26, Tryd.ntmps26
  go_wp2_with fail
  go_still_tail 13, (by kernel_rfl)
  change wpList _ _ _ _ _ w.drew
  go_wp2_with fail
  refine HI.out.mono ?_
  rintro e w1 ⟨rfl, rfl⟩
  generalize hans : (bits .and .u64 (bits .xor .u64 x (IntKind.u64.wrap (2 ^ (i % 64).toNat)) / 2 ^ (i % 64).toNat) 1 == 1) = ans
  have hset : setIn x i = ans := hans
  have HS := Lib.hid hset
  clear hset hans
  have ho : Only [C, g] w (w.drew.setCell ⟨g, (i / 64).toNat, none⟩ (.int .u64 x')) := ((Only.refl [C, g] w).drew).set (.inl (by simp)) _
  have hx2 : x' = turned x i := hx'
  have HO := Lib.hid ho
  have HW := Lib.hid hW
  have HGG := Lib.hid hG
  clear ho hW hG
  rw [hx2] at HO HW HGG
  cases ans
  · go_wp2_with fail
    go_end0
    refine ⟨rfl, by rw [HS.out]; exact HW.out.set 2 _, HGG.out.far (fun e => hne e.symm) _, HO.out.set (.inl (by simp)) _⟩
  · go_wp2_with fail
    go_end0
    refine ⟨rfl, by rw [HS.out]; exact HW.out.set 2 _, HGG.out.far (fun e => hne e.symm) _, HO.out.set (.inl (by simp)) _⟩
end Go.Proofs.YtdpfhpecidmllaaDoor.Ext
