/- Short names. -/
namespace Go.Proofs.YtbfochdoeibofaaGreatDoor
theorem jt{α:Type}(l:List α)(i:Nat):l.toArray[i]? = l[i]? := List.getElem?_toArray
theorem ja{α:Type}{a:α}{l:List α}:(a::l)[0]? = some a := List.getElem?_cons_zero
theorem jb{α:Type}{a:α}{i:Nat}{l:List α}:(a::l)[i+1]? = l[i]? := List.getElem?_cons_succ
theorem ji{α:Type}(l:List α)(i:Nat)(a:α):l.toArray.setIfInBounds i a = (l.set i a).toArray := List.setIfInBounds_toArray l i a
theorem js{α:Type}{x:α}{xs:List α}{a:α}:(x::xs).set 0 a = a::xs := List.set_cons_zero
theorem ju{α:Type}{x:α}{xs:List α}{i:Nat}{a:α}:(x::xs).set (i+1) a = x::xs.set i a := List.set_cons_succ
theorem jg{α:Type}{l:List α}{i:Nat}(h:i<l.length):l[i]? = some l[i] := List.getElem?_eq_getElem h
theorem jd{p:Prop}[Decidable p](h:p):decide p = true := decide_eq_true h
theorem jf{p:Prop}[Decidable p](h:¬p):decide p = false := decide_eq_false h
theorem jn{n:Nat}:n ≤ n := Nat.le_refl n
theorem jl{α:Type}(a:α):∃x,x=a := ⟨a,rfl⟩
end Go.Proofs.YtbfochdoeibofaaGreatDoor
