/- SpoilLaw, SpoilW, in one text. -/
import Derived.Test.YtbfochdoeibofaaGreatDoorQ7
import Derived.Test.YtbfochdoeibofaaGreatDoorQ30
import Derived.StillTailTactics
/- Layer 2 and 8, plain: one byte that is spoilt is found by a page's sum; what a file with a spoilt page is read as. -/
namespace Go.Proofs.YtbfochdoeibofaaGreatDoor.Spoil
open Go.RowKit Go.Proofs.YtbfochdoeibofaaGreatDoor.Mani Go.Proofs.YtbfochdoeibofaaGreatDoor.Dk Go.Proofs.YtbfochdoeibofaaGreatDoor.Mem Go.Proofs.YtbfochdoeibofaaGreatDoor.Crc Go.Proofs.YtbfochdoeibofaaGreatDoor.Full
open Go.Proofs.YtbfochdoeibofaaGreatDoor.Store (Chg Files)
open Go.Proofs.YtbfochdoeibofaaGreatDoor.Page (pageL pageB pageE pageN pageL_length)

theorem xor_left (a b c : Nat) : a ^^^ (b ^^^ c) = b ^^^ (a ^^^ c) := by rw [← Nat.xor_assoc, Nat.xor_comm a b, Nat.xor_assoc]
theorem xor_zero {a b : Nat} (h : a ^^^ b = 0) : a = b := by
  have := congrArg (fun z => z ^^^ b) h
  simpa [Nat.xor_assoc] using this
theorem tabStep_xor (a b : Nat) : tabStep (a ^^^ b) = tabStep a ^^^ tabStep b := by
  have h1 : (a ^^^ b) / 2 = a / 2 ^^^ b / 2 := by
    have := Nat.xor_div_two_pow (a := a) (b := b) (n := 1)
    simpa using this
  have h2 : (a ^^^ b) % 2 = (a % 2 ^^^ b % 2) := by
    have := Nat.xor_mod_two_pow (a := a) (b := b) (n := 1)
    simpa using this
  have h3 : 3988292384 * (a % 2 ^^^ b % 2) = 3988292384 * (a % 2) ^^^ 3988292384 * (b % 2) := by
    rcases Nat.mod_two_eq_zero_or_one a with e | e <;> rcases Nat.mod_two_eq_zero_or_one b with e2 | e2 <;> rw [e, e2] <;> simp
  unfold Crc.tabStep
  rw [h1, h2, h3]
  simp only [Nat.xor_assoc, Nat.xor_comm, xor_left]
theorem steps_xor : ∀ (n a b : Nat), steps n (a ^^^ b) = steps n a ^^^ steps n b
  | 0, _, _ => rfl
  | n + 1, a, b => by
    show tabStep (steps n (a ^^^ b)) = _
    rw [steps_xor n a b, tabStep_xor]
    rfl
theorem steps_mul : ∀ (n m : Nat), steps n (m * 2 ^ n) = m
  | 0, m => by show m * 1 = m; omega
  | n + 1, m => by
    show tabStep (steps n (m * 2 ^ (n + 1))) = m
    rw [show m * 2 ^ (n + 1) = (m * 2) * 2 ^ n by rw [Nat.pow_succ, Nat.mul_assoc, Nat.mul_comm 2], steps_mul n (m * 2)]
    unfold Crc.tabStep
    rw [show m * 2 / 2 = m by omega, show m * 2 % 2 = 0 by omega]
    simp
theorem tabStep_inj {a b : Nat} (ha : a < 2 ^ 32) (hb : b < 2 ^ 32) (h : tabStep a = tabStep b) : a = b := by
  have h0 : tabStep (a ^^^ b) = 0 := by rw [tabStep_xor, h, Nat.xor_self]
  have hlt : a ^^^ b < 2 ^ 32 := Nat.xor_lt_two_pow ha hb
  obtain ⟨x, hx⟩ : ∃ x, x = a ^^^ b := ⟨_, rfl⟩
  rw [← hx] at h0 hlt
  have hx0 : x = 0 := by
    unfold Crc.tabStep at h0
    have he : x / 2 = 3988292384 * (x % 2) := by
      have := congrArg (fun y => y ^^^ 3988292384 * (x % 2)) h0
      simpa [Nat.xor_assoc] using this
    rcases Nat.mod_two_eq_zero_or_one x with e | e
    · rw [e] at he; omega
    · rw [e] at he; omega
  rw [hx0] at hx
  exact xor_zero hx.symm
theorem steps_inj : ∀ (n : Nat) {a b : Nat}, a < 2 ^ 32 → b < 2 ^ 32 → steps n a = steps n b → a = b
  | 0, _, _, _, _, h => h
  | n + 1, _, _, ha, hb, h => steps_inj n ha hb (tabStep_inj (steps_lt ha n) (steps_lt hb n) h)
theorem split8 (x : Nat) : (x % 256) ^^^ (x / 256 * 2 ^ 8) = x := by
  apply Nat.eq_of_testBit_eq
  intro i
  rw [Nat.testBit_xor, show (256 : Nat) = 2 ^ 8 from rfl, Nat.testBit_mod_two_pow, Nat.testBit_mul_two_pow, Nat.testBit_div_two_pow]
  by_cases h : i < 8
  · rw [decide_eq_true h, decide_eq_false (by omega)]
    simp
  · rw [decide_eq_false h, decide_eq_true (by omega), show i - 8 + 8 = i by omega]
    simp
theorem crcStep_eq (x : Nat) (c : UInt8) : crcStep x c = steps 8 (x ^^^ c.toNat) := by
  have h : x ^^^ c.toNat = (x % 256 ^^^ c.toNat) ^^^ (x / 256 * 2 ^ 8) := by
    conv => lhs; rw [← split8 x]
    simp only [Nat.xor_assoc, Nat.xor_comm, xor_left]
  unfold Crc.crcStep Crc.tabF
  rw [h, steps_xor 8 (x % 256 ^^^ c.toNat) (x / 256 * 2 ^ 8), steps_mul]
theorem u8_lt32 (c : UInt8) : c.toNat < 2 ^ 32 := Nat.lt_trans c.toNat_lt (by decide)
theorem step_inj {x y : Nat} (hx : x < 2 ^ 32) (hy : y < 2 ^ 32) (c : UInt8) (h : crcStep x c = crcStep y c) : x = y := by
  rw [crcStep_eq, crcStep_eq] at h
  have := steps_inj 8 (Nat.xor_lt_two_pow hx (u8_lt32 c)) (Nat.xor_lt_two_pow hy (u8_lt32 c)) h
  have := congrArg (fun z => z ^^^ c.toNat) this
  simpa [Nat.xor_assoc] using this
theorem step_byte {x : Nat} (hx : x < 2 ^ 32) {c d : UInt8} (h : crcStep x c = crcStep x d) : c = d := by
  rw [crcStep_eq, crcStep_eq] at h
  have h2 := steps_inj 8 (Nat.xor_lt_two_pow hx (u8_lt32 c)) (Nat.xor_lt_two_pow hx (u8_lt32 d)) h
  have h3 := congrArg (fun z => x ^^^ z) h2
  simp only [← Nat.xor_assoc, Nat.xor_self, Nat.zero_xor] at h3
  exact UInt8.toNat_inj.1 h3
theorem run_inj : ∀ (r : List UInt8) {x y : Nat}, x < 2 ^ 32 → y < 2 ^ 32 → crcRun x r = crcRun y r → x = y
  | [], _, _, _, _, h => h
  | c :: r, _, _, hx, hy, h => step_inj hx hy c (run_inj r (step_lt hx c) (step_lt hy c) h)
theorem run_split (x : Nat) (p r : List UInt8) : crcRun x (p ++ r) = crcRun (crcRun x p) r := by
  unfold Crc.crcRun
  rw [List.foldl_append]
theorem sum_one {bs : List UInt8} {j : Nat} {v : UInt8} (hj : j < bs.length) (h : sumF (bs.set j v) = sumF bs) : bs[j] = v := by
  have e1 : bs = bs.take j ++ bs[j] :: bs.drop (j + 1) := by simp
  have e2 : bs.set j v = bs.take j ++ v :: bs.drop (j + 1) := by
    rw [List.set_eq_take_append_cons_drop, if_pos hj]
  have hr : crcRun 4294967295 (bs.set j v) = crcRun 4294967295 bs := by
    have h1 := run_lt (bs.set j v) (x := 4294967295) (by decide)
    have h2 := run_lt bs (x := 4294967295) (by decide)
    unfold Crc.sumF at h
    omega
  have hs := run_lt (bs.take j) (x := 4294967295) (by decide)
  rw [e2] at hr
  conv at hr => rhs; rw [e1]
  rw [run_split, run_split] at hr
  have := run_inj (bs.drop (j + 1)) (step_lt hs v) (step_lt hs bs[j]) hr
  exact (step_byte hs this).symm
theorem four_inj {a b : Nat} (ha : a < 2 ^ 32) (hb : b < 2 ^ 32) (h : four a = four b) : a = b := by
  unfold Crc.four at h
  simp only [List.cons.injEq, and_true] at h
  obtain ⟨h0, h1, h2, h3⟩ := h
  have g : ∀ {x y : Nat}, UInt8.ofNat x = UInt8.ofNat y → x % 256 = y % 256 := fun e => by
    have := congrArg UInt8.toNat e
    simpa using this
  have := g h0
  have := g h1
  have := g h2
  have := g h3
  omega
theorem mark_spoilt {b b' : List UInt8} {j : Nat} {v : UInt8} (hl : b'.length = b.length) (hj : j < (marked b).length) (h : marked b' = (marked b).set j v) : (marked b)[j] = v := by
  unfold Crc.marked at h hj ⊢
  by_cases hlt : j < b.length
  · rw [List.set_append_left _ _ hlt] at h
    obtain ⟨h1, h2⟩ := List.append_inj h (by rw [List.length_set, hl])
    have hs := four_inj (sumF_lt _) (sumF_lt _) h2
    rw [h1] at hs
    rw [List.getElem_append_left hlt]
    exact sum_one hlt hs
  · rw [List.set_append_right _ _ (by omega)] at h
    obtain ⟨h1, h2⟩ := List.append_inj h hl
    rw [h1] at h2
    have h3 : (four (sumF b))[j - b.length]? = ((four (sumF b)).set (j - b.length) v)[j - b.length]? := by rw [← h2]
    have hj2 : j - b.length < (four (sumF b)).length := by rw [List.length_append] at hj; omega
    rw [List.getElem?_set_self hj2, List.getElem?_eq_getElem hj2] at h3
    rw [List.getElem_append_right (by omega)]
    exact Option.some.inj h3
/-- A page of which one byte is another one has no right sum. -/
theorem page_spoilt {id n : Nat} {b : List UInt8} (hb : b.length ≤ 112) {j : Nat} {v : UInt8} (hj : j < 128) (hv : (pageL id n b)[j]? ≠ some v) : pageE ((pageL id n b).set j v) id n ≠ 0 := by
  unfold Page.pageE
  split
  · rename_i hp
    exfalso
    have hl : (pageB ((pageL id n b).set j v)).length ≤ 112 := by
      unfold Page.pageB
      rw [List.length_take]
      have := pageN_le ((pageL id n b).set j v)
      omega
    have hlen := pageL_length (file := id) (place := n) hb
    have e := mark_spoilt (b := four id ++ (four n ++ (four b.length ++ (b ++ List.replicate (112 - b.length) 0)))) (b' := four id ++ (four n ++ (four (pageB ((pageL id n b).set j v)).length ++ (pageB ((pageL id n b).set j v) ++ List.replicate (112 - (pageB ((pageL id n b).set j v)).length) 0)))) (j := j) (v := v) (by
      simp only [List.length_append, four_length, List.length_replicate]
      omega) (by
      show j < (pageL id n b).length
      omega) hp
    apply hv
    rw [List.getElem?_eq_getElem (by omega)]
    exact congrArg some e
  · decide
/-- What a file is read as, where one block is another one. -/
theorem loadG_spoilt {bl bl' : List (List UInt8)} {i : Nat} (hfar : ∀ k, k ≠ i → bl'[k]? = bl[k]?) (id : Nat) (b : List UInt8) (hbad : ∀ n, bl[i]? = some (pageL id n ((b.drop (n * 112)).take 112)) → pageE (bl'.getD i []) id n ≠ 0) : ∀ (rest : List Nat) (n : Nat), (∀ k i, rest[k]? = some i → bl[i]? = some (pageL id (n + k) ((b.drop ((n + k) * 112)).take 112))) → n + rest.length = Mani.many b.length → loadG bl' id b.length n (b.take (n * 112)) rest = if i ∈ rest then ([], 5) else (b, 0)
  | [], n, _, hn => by
    have h := (many_cover (n := b.length)).1
    rw [List.length_nil, Nat.add_zero] at hn
    rw [← hn] at h
    show (b.take (n * 112), (0 : Int)) = _
    rw [List.take_of_length_le h]
    rfl
  | q :: r, n, h, hn => by
    have h0 := h 0 q rfl
    rw [Nat.add_zero] at h0
    by_cases hq : q = i
    · subst hq
      unfold loadG
      rw [if_neg (fun hc => hbad n h0 hc.1), if_pos (by simp)]
    · have hlt : n * 112 < b.length := (many_cover (n := b.length)).2 n (by rw [← hn, List.length_cons]; omega)
      have hg : bl'.getD q [] = pageL id n ((b.drop (n * 112)).take 112) := by rw [List.getD_eq_getElem?_getD, hfar q hq, h0]; rfl
      have hl : ((b.drop (n * 112)).take 112).length ≤ 112 := by rw [List.length_take]; omega
      unfold loadG
      rw [hg, pageE_page id n hl, pageB_page id n hl, if_pos ⟨rfl, by
        rw [List.length_take, List.length_drop, List.length_take]
        omega⟩]
      have e : b.take (n * 112) ++ (b.drop (n * 112)).take 112 = b.take ((n + 1) * 112) := by
        rw [Nat.succ_mul, List.take_add]
      rw [e, loadG_spoilt hfar id b hbad r (n + 1) (fun k j hk => by
        have := h (k + 1) j (by simpa using hk)
        rw [show n + 1 + k = n + (k + 1) by omega]
        exact this) (by rw [List.length_cons] at hn; omega)]
      have hiff : i ∈ q :: r ↔ i ∈ r := by
        rw [List.mem_cons]
        exact ⟨fun h1 => h1.resolve_left (fun e => hq e.symm), .inr⟩
      by_cases hm : i ∈ r
      · rw [if_pos hm, if_pos (hiff.2 hm)]
      · rw [if_neg hm, if_neg (fun h1 => hm (hiff.1 h1))]
/-- The disk's blocks, one byte of which was spoilt. -/
def spoilB (bl : List (List UInt8)) (i at_ : Nat) (y : UInt8) : List (List UInt8) := bl.set i ((bl.getD i []).set at_ ((bl.getD i []).getD at_ 0 ^^^ y))
theorem loadF_spoilt {bl : List (List UInt8)} {f : Fil} {b : List UInt8} (h : PagesAt bl f b) {i at_ : Nat} {y : UInt8} (hi : i < bl.length) (ha : at_ < 128) (hy : y ≠ 0) : loadF (spoilB bl i at_ y) f = if i ∈ f.blocks then ([], 5) else (b, 0) := by
  unfold loadF
  rw [h.size]
  have := loadG_spoilt (bl := bl) (bl' := spoilB bl i at_ y) (i := i) (fun k hk => by
    unfold spoilB
    rw [List.getElem?_set_ne (fun e => hk e.symm)]) f.id b (fun n hn => by
    have hl : ((b.drop (n * 112)).take 112).length ≤ 112 := by rw [List.length_take]; omega
    have hg : bl.getD i [] = pageL f.id n ((b.drop (n * 112)).take 112) := by rw [List.getD_eq_getElem?_getD, hn]; rfl
    have hs : (spoilB bl i at_ y).getD i [] = (pageL f.id n ((b.drop (n * 112)).take 112)).set at_ ((pageL f.id n ((b.drop (n * 112)).take 112)).getD at_ 0 ^^^ y) := by
      unfold spoilB
      rw [List.getD_eq_getElem?_getD, List.getElem?_set_self hi, hg]
      rfl
    rw [hs]
    refine page_spoilt hl ha (fun e => ?_)
    have hlt : at_ < (pageL f.id n ((b.drop (n * 112)).take 112)).length := by rw [pageL_length hl]; exact ha
    obtain ⟨d, hd⟩ : ∃ d, d = (pageL f.id n ((b.drop (n * 112)).take 112)).getD at_ 0 := ⟨_, rfl⟩
    have hd2 : (pageL f.id n ((b.drop (n * 112)).take 112))[at_]? = some d := by
      rw [hd, List.getD_eq_getElem?_getD, List.getElem?_eq_getElem hlt]
      rfl
    rw [hd2, ← hd] at e
    have e2 := Option.some.inj e
    apply hy
    have e3 := congrArg (fun z => d ^^^ z) e2
    simp only [← UInt8.xor_assoc, UInt8.xor_self, UInt8.zero_xor] at e3
    exact e3.symm) f.blocks 0 (fun k i hk => by rw [Nat.zero_add]; exact h.at_ k i hk) (by rw [h.many, Nat.zero_add])
  rwa [Nat.zero_mul, List.take_zero] at this
end Go.Proofs.YtbfochdoeibofaaGreatDoor.Spoil

/- Layer 6: a byte is spoilt. -/
namespace Go.Proofs.YtbfochdoeibofaaGreatDoor.Spoil
open Go.RowKit Go.Deep Mem Crc Go.Proofs.YtbfochdoeibofaaGreatDoor.Dk

theorem flat_put {α : Type} {f : α → List Value} {s : Nat} : ∀ {l : List α}, (∀ x ∈ l, (f x).length = s) → ∀ {k j : Nat} {x x' : α} {u : Value}, l[k]? = some x → j < s → f x' = (f x).set j u → (l.set k x').flatMap f = (l.flatMap f).set (k * s + j) u
  | [], _, k, _, _, _, _, hx, _, _ => by simp at hx
  | y :: r, h, 0, j, x, x', u, hx, hj, he => by
    simp at hx
    subst hx
    have h1 := h y (by simp)
    rw [List.set_cons_zero, List.flatMap_cons, List.flatMap_cons, he, Nat.zero_mul, Nat.zero_add, List.set_append_left _ _ (by omega)]
  | y :: r, h, k + 1, j, x, x', u, hx, hj, he => by
    have h1 := h y (by simp)
    have := flat_put (f := f) (s := s) (l := r) (fun z hz => h z (by simp [hz])) (k := k) (x := x) (x' := x') (u := u) (by simpa using hx) hj he
    rw [List.set_cons_succ, List.flatMap_cons, List.flatMap_cons, this, List.set_append_right _ _ (by rw [h1, Nat.succ_mul]; omega)]
    congr 2
    rw [h1, Nat.succ_mul]
    omega
theorem dk_put {w : World} {d g : Nat} {wv : Value} {m : DM} (h : Dk w d g wv m) {i a : Nat} (hi : i < m.bl.length) (ha : a < 128) (v : UInt8) : Dk (w.setCell ⟨g, i * 128 + a, none⟩ (bv v)) d g wv { m with bl := m.bl.set i ((m.bl.getD i []).set a v) } := by
  have hb : m.bl[i]? = some (m.bl.getD i []) := by rw [List.getD_eq_getElem?_getD, List.getElem?_eq_getElem hi]; rfl
  have hl := h.len _ (List.mem_of_getElem? hb)
  have ho : Only [g] w (w.setCell ⟨g, i * 128 + a, none⟩ (bv v)) := (Only.refl [g] w).set (p := ⟨g, i * 128 + a, none⟩) (.inl (by simp)) _
  refine ⟨?_, ?_, own_only h.wt ho (fun q hq hm => h.wg (by rw [hq, List.mem_singleton.1 hm])), fun b hb' => ?_, fun x hx => ?_, h.f0, h.f1, ?_, h.nil⟩
  · show Blk _ d _ #[.slice _ (m.bl.set i _).length (m.bl.set i _).length, _, _, _]
    rw [List.length_set]
    exact h.disk.only ho (by simpa using h.dg)
  · have := h.row.set (i * 128 + a) (bv v)
    have e : (blC m.bl).toArray.setIfInBounds (i * 128 + a) (bv v) = (blC (m.bl.set i ((m.bl.getD i []).set a v))).toArray := by
      rw [List.setIfInBounds_toArray]
      congr 1
      unfold Dk.blC
      exact (flat_put (f := fun b : List UInt8 => b.map bv) (s := 128) (fun b hb' => by rw [List.length_map]; exact h.len b hb') hb ha (by rw [List.map_set])).symm
    rw [e] at this
    exact this
  · rcases List.mem_or_eq_of_mem_set hb' with hb' | rfl
    · exact h.len b hb'
    · rw [List.length_set]
      exact hl
  · refine ⟨?_, (h.wlen x hx).2⟩
    show x.1 < (m.bl.set i _).length
    rw [List.length_set]
    exact (h.wlen x hx).1
  · show (m.bl.set i _).length ≤ 65536
    rw [List.length_set]
    exact h.small
/-- The blocks behind Spoil. -/
def spoilI (bl : List (List UInt8)) (i a : Int) (y : UInt8) : List (List UInt8) := if 0 ≤ i ∧ i < bl.length ∧ 0 ≤ a ∧ a < 128 then spoilB bl i.toNat a.toNat y else bl
attribute [local go_sem] Oper.semAt_some
set_option maxHeartbeats 1000000 in
set_option maxRecDepth 100000 in
theorem spoil_any {w : World} {d g : Nat} {wv : Value} {m : DM} (h : Dk w d g wv m) (i a : Int) (y : UInt8) :
    Calls Tryz.prog 30 #[.pointer (some ⟨d, 0, none⟩), .int .i64 i, .int .i64 a, bv y] w fun e w' => (∃ k : Int, e = .returned (.int .i64 k)) ∧ Upon (fun q => q = g) w w' ∧ Dk w' d g wv { m with bl := spoilI m.bl i a y } := by
  have HT := Lib.hid (there_any i h)
  by_cases hr : 0 ≤ i ∧ i < m.bl.length ∧ 0 ≤ a ∧ a < 128
  · obtain ⟨r1, r2, r3, r4⟩ := hr
    have htb : (decide (0 ≤ i) && decide (i < m.bl.length)) = true := by rw [decide_eq_true r1, decide_eq_true r2]; rfl
    rw [htb] at HT
    obtain ⟨I, rfl⟩ := Int.eq_ofNat_of_zero_le r1
    obtain ⟨A, rfl⟩ := Int.eq_ofNat_of_zero_le r3
    have hI : I < m.bl.length := by omega
    have hA : A < 128 := by omega
    have hb : m.bl[I]? = some (m.bl.getD I []) := by rw [List.getD_eq_getElem?_getD, List.getElem?_eq_getElem hI]; rfl
    have hl := h.len _ (List.mem_of_getElem? hb)
    obtain ⟨x, hx⟩ : ∃ x, x = (m.bl.getD I []).getD A 0 := ⟨_, rfl⟩
    have hx2 : (m.bl.getD I [])[A]? = some x := by
      rw [hx, List.getD_eq_getElem?_getD (l := m.bl.getD I []), List.getElem?_eq_getElem (l := m.bl.getD I []) (by rw [hl]; exact hA)]
      rfl
    have hc : w.cell? ⟨g, I * 128 + A, none⟩ = some (bv x) := by
      rw [h.row.cell, List.getElem?_toArray]
      unfold Dk.blC
      exact flat_at (f := fun b : List UInt8 => b.map bv) (s := 128) (fun b hb' => by rw [List.length_map]; exact h.len b hb') hb (by rw [List.getElem?_map, hx2]; rfl)
    have hz := h.row.frozen (I * 128 + A)
    have hD : Dk (w.drew.setCell ⟨g, I * 128 + A, none⟩ (bv (x ^^^ y))) d g wv { m with bl := spoilI m.bl (I : Int) (A : Int) y } := by
      have := dk_put (h.keep (w' := w.drew) (Nat.le_refl _) (fun _ _ => rfl)) hI hA (x ^^^ y)
      unfold spoilI
      rw [if_pos ⟨r1, r2, r3, r4⟩]
      unfold spoilB
      rw [Int.toNat_natCast, Int.toNat_natCast, ← hx]
      exact this
    obtain ⟨c0, _, _, _⟩ := h.cells
    have hxy : bits .xor .u8 (x.toNat : Int) (y.toNat : Int) = ((x ^^^ y).toNat : Int) := by
      rw [u8_xor_nat _ _ x.toNat_lt y.toNat_lt, UInt8.toNat_xor]
    obtain ⟨n, hn⟩ : ∃ n, n = m.bl.length := ⟨_, rfl⟩
    have hsm := h.small
    rw [← hn] at c0 hI hsm
    unfold Mem.bv at hc hD ⊢
    rw [← hxy] at hD
    have HD := Lib.hid hD
    clear h htb r1 r2 r3 r4 hb hl hx hx2 hD hxy hn
    go_enter Tryz.func30, Tryz.ntmps30
    go_wp2_with fail
    refine HT.out.mono ?_
    rintro e w1 ⟨rfl, rfl⟩
    go_wp2_with fail
    go_still_tail 13, (by kernel_rfl)
    change wpList _ _ _ _ _ w1.drew
    go_wp2_with fail
    go_ret
    exact ⟨⟨_, rfl⟩, (Upon.refl (fun q => q = g) w1).drew.set (p := ⟨g, I * 128 + A, none⟩) (.inl rfl) _, HD.out⟩
  · have hD : Dk w d g wv { m with bl := spoilI m.bl i a y } := by
      unfold spoilI
      rw [if_neg hr]
      exact h
    have HD := Lib.hid hD
    have hcs : (decide (0 ≤ i) && decide (i < m.bl.length)) = false ∨ ((decide (0 ≤ i) && decide (i < m.bl.length)) = true ∧ a < 0) ∨ ((decide (0 ≤ i) && decide (i < m.bl.length)) = true ∧ ¬ a < 0 ∧ 128 ≤ a) := by
      by_cases h1 : 0 ≤ i ∧ i < m.bl.length
      · have : (decide (0 ≤ i) && decide (i < m.bl.length)) = true := by rw [decide_eq_true h1.1, decide_eq_true h1.2]; rfl
        by_cases h2 : a < 0
        · exact .inr (.inl ⟨this, h2⟩)
        · exact .inr (.inr ⟨this, h2, by omega⟩)
      · left
        rw [Bool.and_eq_false_iff]
        by_cases h2 : 0 ≤ i
        · exact .inr (decide_eq_false (fun h3 => h1 ⟨h2, h3⟩))
        · exact .inl (decide_eq_false h2)
    unfold Mem.bv
    obtain ⟨tb, htb⟩ : ∃ b, b = (decide (0 ≤ i) && decide (i < m.bl.length)) := ⟨_, rfl⟩
    rw [← htb] at HT hcs
    clear h hD htb hr
    rcases hcs with rfl | ⟨rfl, h1⟩ | ⟨rfl, h1, h2⟩
    · go_enter Tryz.func30, Tryz.ntmps30
      go_wp2_with fail
      refine HT.out.mono ?_
      rintro e w1 ⟨rfl, rfl⟩
      go_wp2_with fail
      go_ret
      exact ⟨⟨_, rfl⟩, Upon.refl _ _, HD.out⟩
    · have d1 : decide (a < 0) = true := decide_eq_true h1
      go_enter Tryz.func30, Tryz.ntmps30
      go_wp2_with fail
      refine HT.out.mono ?_
      rintro e w1 ⟨rfl, rfl⟩
      go_wp2_with fail
      go_ret
      exact ⟨⟨_, rfl⟩, Upon.refl _ _, HD.out⟩
    · have d1 : decide (a < 0) = false := decide_eq_false h1
      have d2 : decide (128 ≤ a) = true := decide_eq_true h2
      go_enter Tryz.func30, Tryz.ntmps30
      go_wp2_with fail
      refine HT.out.mono ?_
      rintro e w1 ⟨rfl, rfl⟩
      go_wp2_with fail
      go_ret
      exact ⟨⟨_, rfl⟩, Upon.refl _ _, HD.out⟩
end Go.Proofs.YtbfochdoeibofaaGreatDoor.Spoil
