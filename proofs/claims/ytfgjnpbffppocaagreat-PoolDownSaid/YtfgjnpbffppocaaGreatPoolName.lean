/- Layer 24: a spill's name. -/
import Derived.Test.YtfgjnpbffppocaaGreatText
import Derived.Laws.IdiomStrings
namespace Go.Proofs.YtfgjnpbffppocaaGreat.Pool
open Go.RowKit Go.Deep Mem Crc

/-- "p" and the number. -/
def pname (i : Nat) : List UInt8 := 112 :: Go.Proofs.YtfgjnpbffppocaaGreat.Text.dec i
theorem decA_ne : ∀ (f n : Nat) (acc : List UInt8), (f ≠ 0 ∨ acc ≠ []) → Go.Proofs.YtfgjnpbffppocaaGreat.Text.decA f n acc ≠ []
  | 0, _, acc, h => by
    rcases h with h | h
    · exact absurd rfl h
    · exact h
  | f + 1, n, acc, _ => by
    unfold Go.Proofs.YtfgjnpbffppocaaGreat.Text.decA
    split
    · simp
    · exact decA_ne f _ _ (.inr (by simp))
theorem dec_ne (i : Nat) : Go.Proofs.YtfgjnpbffppocaaGreat.Text.dec i ≠ [] := decA_ne 20 i [] (.inl (by decide))
theorem dec_len (i : Nat) : (Go.Proofs.YtfgjnpbffppocaaGreat.Text.dec i).length ≤ 20 := by
  have := Go.Proofs.YtfgjnpbffppocaaGreat.Text.decA_length 20 i []
  rw [List.length_nil, Nat.zero_add] at this
  exact this
theorem pname_len (i : Nat) : 1 ≤ (pname i).length ∧ (pname i).length ≤ 32 := by
  have := dec_len i
  unfold pname
  simp
  omega
theorem pname_inj : ∀ i, i < 20 → ∀ j, j < 20 → pname i = pname j → i = j := by decide +kernel
theorem app_p (ds : List UInt8) : ((⟨#[112]⟩ : ByteArray) ++ (⟨ds.toArray⟩ : ByteArray)) = ⟨(112 :: ds).toArray⟩ := by
  apply ByteArray.ext
  simp
set_option maxHeartbeats 400000 in
set_option maxRecDepth 100000 in
theorem name_any (i : Nat) (hi : i ≤ 1000000) (w : World) :
    Calls Tryz.prog 21 #[.int .i64 (i : Int)] w fun e w' => e = .returned (.string ⟨(pname i).toArray⟩) ∧ Below w.heap.size w w' := by
  have hw : IntKind.u64.wrap (i : Int) = i := IntWalk.u64_in _ (by omega)
  have HP := Lib.hid (Go.Proofs.YtfgjnpbffppocaaGreat.Text.put_nil i w (by omega))
  go_enter Tryz.func21, Tryz.ntmps21
  go_wp2_with fail
  refine HP.out.mono ?_
  rintro e w1 ⟨v, rfl, hO, hB⟩
  obtain ⟨va, vc, rfl, _, hL, _, _⟩ := own_shape hO
  have hconv : (convert 23 9 (.slice va (Go.Proofs.YtfgjnpbffppocaaGreat.Text.dec i).length vc)).run Tryz.prog w1 = .ok (.string ⟨(Go.Proofs.YtfgjnpbffppocaaGreat.Text.dec i).toArray⟩) w1 := by
    obtain ⟨g, off, rfl, _, hc⟩ := hL.resolve_left (fun e => by
      rw [List.map_eq_nil_iff] at e
      exact dec_ne i e)
    exact run_convert_bytes_back w1 23 9 5 _ vc _ Tryz.underlying23 Tryz.underlying5 Tryz.underlying9 (fun j hj => lies_add (.inr ⟨g, off, rfl, by assumption, hc⟩) j _ (by simp [hj, bv]))
  obtain ⟨ds, hds⟩ : ∃ ds, ds = Go.Proofs.YtfgjnpbffppocaaGreat.Text.dec i := ⟨_, rfl⟩
  have er : pname i = 112 :: ds := by rw [hds]; rfl
  rw [← hds] at hconv ⊢
  have HE := Lib.hid er
  have hlim : 1 + ds.length ≤ 9223372036854775807 := by rw [hds]; have := dec_len i; omega
  have HB := Lib.hid hB
  clear hO hL hds er hB
  go_wp2_with fail
  go_ret
  refine ⟨?_, HB.out⟩
  rw [HE.out, ← app_p]
  rfl
end Go.Proofs.YtfgjnpbffppocaaGreat.Pool
