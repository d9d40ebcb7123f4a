/- Short names. -/
namespace Go.Proofs.YtfgjnpbffppocaaGreatDoor
theorem jt{α:Type}(l:List α)(i:Nat):l.toArray[i]? = l[i]? := List.getElem?_toArray
theorem ja{α:Type}{a:α}{l:List α}:(a::l)[0]? = some a := List.getElem?_cons_zero
theorem jb{α:Type}{a:α}{i:Nat}{l:List α}:(a::l)[i+1]? = l[i]? := List.getElem?_cons_succ
theorem ji{α:Type}(l:List α)(i:Nat)(a:α):l.toArray.setIfInBounds i a = (l.set i a).toArray := List.setIfInBounds_toArray l i a
theorem js{α:Type}{x:α}{xs:List α}{a:α}:(x::xs).set 0 a = a::xs := List.set_cons_zero
theorem ju{α:Type}{x:α}{xs:List α}{i:Nat}{a:α}:(x::xs).set (i+1) a = x::xs.set i a := List.set_cons_succ
theorem jg{α:Type}{l:List α}{i:Nat}(h:i<l.length):l[i]? = some l[i] := List.getElem?_eq_getElem h
theorem jL{α:Type}{as bs:List α}:(as ++ bs).length = as.length + bs.length := List.length_append
theorem jS{α:Type}{l:List α}{i:Nat}{a:α}:l[i]? = some a ↔ ∃ h:i < l.length, l[i] = a := List.getElem?_eq_some_iff
theorem jM{α:Type}{l:List α}{i:Nat}{a:α}(e:l[i]? = some a):a ∈ l := List.mem_of_getElem? e
theorem jT{α:Type}{i:Nat}{l:List α}:(l.take i).length = min i l.length := List.length_take
theorem jW{α:Type}{l:List α}{i:Nat}(h:l.length ≤ i):l.take i = l := List.take_of_length_le h
theorem jC{α β:Type}{x:α}{xs:List α}{f:α -> List β}:(x::xs).flatMap f = f x ++ xs.flatMap f := List.flatMap_cons
theorem jP{α β:Type}{as:List α}(f:α -> β):(as.map f).length = as.length := List.length_map f
theorem jE{α:Type}{a b:α}:a ∈ [b] ↔ a = b := List.mem_singleton
theorem jd{p:Prop}[Decidable p](h:p):decide p = true := decide_eq_true h
theorem jf{p:Prop}[Decidable p](h:¬p):decide p = false := decide_eq_false h
theorem jn{n:Nat}:n ≤ n := Nat.le_refl n
theorem jl{α:Type}(a:α):∃x,x=a := ⟨a,rfl⟩
end Go.Proofs.YtfgjnpbffppocaaGreatDoor
