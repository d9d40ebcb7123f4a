/- Short names. -/
namespace Go.Proofs.YtndkohocgfmamaaGreatDoor
variable {α β:Type}{i:Nat}{p:Prop}
theorem jt(l:List α)(i:Nat):l.toArray[i]? = l[i]? := List.getElem?_toArray
theorem ja{a:α}{l:List α}:(a::l)[0]? = some a := List.getElem?_cons_zero
theorem jb{a:α}{l:List α}:(a::l)[i+1]? = l[i]? := List.getElem?_cons_succ
theorem ji(l:List α)(i:Nat)(a:α):l.toArray.setIfInBounds i a = (l.set i a).toArray := List.setIfInBounds_toArray l i a
theorem js{x:α}{xs:List α}{a:α}:(x::xs).set 0 a = a::xs := List.set_cons_zero
theorem ju{x:α}{xs:List α}{a:α}:(x::xs).set (i+1) a = x::xs.set i a := List.set_cons_succ
theorem jg{l:List α}(h:i<l.length):l[i]? = some l[i] := List.getElem?_eq_getElem h
theorem jL{as bs:List α}:(as ++ bs).length = as.length + bs.length := List.length_append
theorem jS{l:List α}{a:α}:l[i]? = some a ↔ ∃ h:i < l.length, l[i] = a := List.getElem?_eq_some_iff
theorem jM{l:List α}{a:α}(e:l[i]? = some a):a ∈ l := List.mem_of_getElem? e
theorem jT{l:List α}:(l.take i).length = min i l.length := List.length_take
theorem jW{l:List α}(h:l.length ≤ i):l.take i = l := List.take_of_length_le h
theorem jC{x:α}{xs:List α}{f:α -> List β}:(x::xs).flatMap f = f x ++ xs.flatMap f := List.flatMap_cons
theorem jP{as:List α}(f:α -> β):(as.map f).length = as.length := List.length_map f
theorem jE{a b:α}:a ∈ [b] ↔ a = b := List.mem_singleton
theorem jd[Decidable p](h:p):decide p = true := decide_eq_true h
theorem jf[Decidable p](h:¬p):decide p = false := decide_eq_false h
theorem jn{n:Nat}:n ≤ n := Nat.le_refl n
theorem jl(a:α):∃x,x=a := ⟨a,rfl⟩
abbrev dG:=@Array.getElem?_eq_some_iff
abbrev ax:=@Nat.le_trans
abbrev aD:=@Nat.lt_of_lt_of_le
abbrev aj:=@Nat.le_refl
abbrev iJ:=@Nat.pow_succ
abbrev fJ:=@Nat.mod_lt
abbrev aZ:=@List.map_append
abbrev iK:=@List.getElem?_append_left
abbrev iL:=@List.getElem?_append_right
abbrev bF:=@List.take_add_one
abbrev ig:=@List.flatMap_append
abbrev iq:=@List.take_append_drop
abbrev aC:=@Nat.zero_le
abbrev rO:=@Nat.succ_le_of_lt
abbrev lC:=@List.take_length
abbrev uX:=@List.drop_eq_getElem_cons
abbrev oJ:=@List.le_iff_lt_or_eq
abbrev rP:=@List.append_of_mem
abbrev iM:=@List.not_lt
abbrev rQ:=@List.drop_of_length_le
abbrev je:=@Nat.not_lt_zero
abbrev kF:=@Nat.le_of_lt
abbrev gL:=@Ne.symm
abbrev jh:=@List.getElem?_take
abbrev mo:=@Array.getElem?_toList
abbrev dM:=@List.map_eq_nil_iff
abbrev kG:=@List.foldl_append
abbrev eY:=@Nat.succ_mul
abbrev uY:=@Array.getElem?_eq_getElem
abbrev jD:=@Nat.mul_le_mul_right
abbrev kH:=@List.take_left
abbrev rR:=@List.mem_flatMap
abbrev qC:=@Nat.min_eq_left
abbrev rT:=@List.take_append_of_le_length
abbrev fA:=@List.map_take
abbrev jV:=@List.map_drop
abbrev qD:=@Int.tmod_eq_emod_of_nonneg
abbrev qE:=@List.getElem_mem
abbrev iw:=@List.eq_nil_of_length_eq_zero
abbrev qF:=@List.getElem?_of_mem
abbrev jm:=@List.any_eq_true
abbrev uZ:=@Int.tdiv_eq_ediv_of_nonneg
abbrev ve:=@Nat.mod_two_eq_zero_or_one
abbrev rU:=@Nat.pow_lt_pow_right
abbrev rV:=@Nat.xor_lt_two_pow
abbrev vg:=@List.getElem?_eq_none
abbrev kI:=@Array.getElem?_setIfInBounds
abbrev iy:=@Nat.mul_comm
abbrev yx:=@Nat.testBit_two_pow_sub_succ
abbrev yA:=@Nat.testBit_two_pow_sub_one
abbrev oK:=@List.filter_append
abbrev iA:=@List.mem_filter
abbrev kJ:=@List.pairwise_map
abbrev oL:=@List.nodup_cons
abbrev qG:=@List.mem_cons_self
abbrev eD:=@List.mem_cons_of_mem
abbrev rW:=@List.mem_of_mem_take
abbrev oM:=@List.nodup_nil
abbrev mq:=@Nat.pow_le_pow_right
abbrev qH:=@Nat.exists_eq_add_of_le
abbrev eF:=@List.pairwise_cons
abbrev mD:=@List.lt_trans
abbrev gM:=@List.pairwise_append
abbrev vo:=@List.filter_sublist
abbrev rX:=@List.length_filter_le
abbrev mE:=@List.le_trans
abbrev vv:=@List.mergeSort_perm
abbrev qI:=@List.map_congr_left
abbrev qJ:=@List.pairwise_iff_getElem
abbrev rY:=@List.getElem?_eq_getElem
abbrev qK:=@Nat.lt_irrefl
abbrev vw:=@List.length_mergeSort
abbrev rZ:=@Classical.byContradiction
abbrev oN:=@List.Perm.refl
abbrev oO:=@List.flatten_append
abbrev mF:=@Bool.false_ne_true
abbrev jF:=@List.filter_cons
abbrev vz:=@List.filter_eq_self
abbrev nJ:=@UInt8.toNat_lt
abbrev oP:=@Nat.mod_eq_of_lt
abbrev mG:=@Nat.mul_assoc
abbrev oQ:=@ByteArray.ext
abbrev lD:=@List.length_pos_iff
abbrev vB:=@List.perm_append_singleton
abbrev si:=@Option.ne_none_iff_exists'
abbrev qL:=@Nat.div_lt_iff_lt_mul
abbrev nK:=@List.eq_nil_or_concat
abbrev nL:=@List.concat_eq_append
end Go.Proofs.YtndkohocgfmamaaGreatDoor
