/- Part. -/
import Derived.Test.YtndkohocgfmamaaGreatDoorF2
import Derived.Maps.Range
namespace Go.Proofs.YtndkohocgfmamaaGreatDoor
open Go.Proofs.Tryz
namespace Mem
open Go.RowKit Go.Deep Go.MapKept Go.ChangeMaps
open Go.Maps (Keyed)
def jH(v:Value):Option (DataW Value×List MemPlace):=some (.held v,[])
theorem yw{v u:Value}{ps:List MemPlace}(h:jH v=some (.held u,ps)):v=u:=by
 unfold jH at h;injection h with h;injection h with h _;injection h
def iE(D:DataW Value)(f:Lit->Option Value):Prop:=∀kl,Maps.has D kl=(f kl).isSome/\∀v,f kl=some v->∀z,D.atKey kl z=.held v
def aY(w:World)(k:TypeId)(b:Nat)(f:Lit->Option Value):Prop:=∃D n,w.ownsMap prog k jH b n D/\iE D f
theorem zJ:iE (.map []) (λ_=>none):=λ_=>⟨rfl,λ_ h=>by cases h⟩
theorem aY.made(w:World)(k:TypeId):aY (w.alloc (.map #[] 0)) k w.heap.size (λ_=>none):=⟨_,0,World.ownsMap_made w prog k jH,zJ⟩
theorem aY.lt{w:World}{k:TypeId}{b:Nat}{f:Lit->Option Value}(h:aY w k b f):b<w.heap.size:=by
 obtain⟨D,n,h,_⟩:=h;exact h.lt
variable {w:World}{k t e:TypeId}{b:Nat}{f:Lit->Option Value}{key:Value}{kl:Lit}
theorem aY.keep{w':World}(h:aY w k b f)(hb:w'.heap[b]? =w.heap[b]?):aY w' k b f:=by
 obtain⟨D,n,⟨a,clock,c,d⟩,hd⟩:=h;exact⟨D,n,⟨a,clock,hb.trans c,d⟩,hd⟩
noncomputable def iR(f:Lit->Option Value)(k:Lit)(v:Option Value):Lit->Option Value:=λx=>open Classical in if x=k then v else f x
theorem kK(f:Lit->Option Value)(k:Lit)(v:Option Value):iR f k v k=v:=by unfold iR;rw[if_pos rfl]
theorem fQ{k x:Lit}(v:Option Value)(h:x≠k):iR f k v x=f x:=by unfold iR;rw[if_neg h]
theorem iE.put{D:DataW Value}{f:Lit->Option Value}(h:iE D f)(hD:Maps.IsMap D){k:Lit}(d:WideAt.IsKeyLit k)(v:Value):iE (D.put k (.held v)) (iR f k (some v)):=λx=>by
 by_cases a:x=k
 ·subst a;rw[kK];exact⟨Maps.has_put_same hD d _,λu c z=>by cases c;exact Maps.atKey_put_same hD d _ _⟩
 ·rw[fQ _ a];refine⟨(Maps.has_put_other a _).trans (h x).1,λu c z=>(Maps.atKey_put_other a _ _).trans ((h x).2 u c z)⟩
theorem iE.del{D:DataW Value}{f:Lit->Option Value}(h:iE D f)(k:Lit):iE (D.del k) (iR f k none):=λx=>by
 by_cases a:x=k
 ·subst a;rw[kK];exact⟨Maps.has_del_same,λu c z=>by cases c⟩
 ·rw[fQ _ a];refine⟨(Maps.has_del_other a).trans (h x).1,λu c z=>(Maps.atKey_del_other a _).trans ((h x).2 u c z)⟩
theorem aY.look(h:aY w k b f)(K:Keyed prog k)(i:prog.underlying t=some (.map k e)){z:Value}(j:∀w,(zeroValue e).run prog w=.ok z w)(d:keyOf prog k key=some kl): (Instr.lookup t (.map (some b)) key false).run prog w=.ok ((f kl).getD z) w:=by
 obtain⟨D,n,h,hd⟩:=h;obtain⟨v,ps,g,a⟩:=h.lookup K i (j w) (zd:=.held z) (zp:=[]) rfl d
 have e:v=(f kl).getD z:=by
  cases hf:f kl with
  |none=>
   have c:=(hd kl).1;rw[hf]at c;rw[Maps.atKey_of_not_has c]at a;exact yw a
  |some u=>
   rw[(hd kl).2 u hf]at a;exact yw a
 rw[g,e]
theorem aY.look_ok{w:World}{k:TypeId}{b:Nat}{f:Lit->Option Value}{t e:TypeId}(h:aY w k b f)(K:Keyed prog k)(i:prog.underlying t=some (.map k e)){z:Value}(j:∀w,(zeroValue e).run prog w=.ok z w){key:Value}{kl:Lit}(d:keyOf prog k key=some kl): (Instr.lookup t (.map (some b)) key true).run prog w=.ok (.tuple #[(f kl).getD z,.bool (f kl).isSome]) w:=by
 obtain⟨D,n,h,hd⟩:=h;obtain⟨v,ps,g,a⟩:=h.look_ok K i (j w) (zd:=.held z) (zp:=[]) rfl d;rw[g,(hd kl).1]
 have e:v=(f kl).getD z:=by
  cases hf:f kl with
  |none=>
   have c:=(hd kl).1;rw[hf]at c;rw[Maps.atKey_of_not_has c]at a;exact yw a
  |some u=>
   rw[(hd kl).2 u hf]at a;exact yw a
 rw[e]
theorem xI:∀(l L:List Lit),l.Pairwise (·≠·)->(∀x∈l,x∈L)->l.length<=L.length
 | [],_,_,_=>aC _
 |a ::r,L,hp,hs=>by
  obtain⟨g,h⟩:=eF.1 hp;obtain⟨s,t,rfl⟩:=rP (hs a (by simp))
  have:=xI r (s++t) h (λx d=>by
   have c:=hs x (by simp[d]);have i:=g x d;simp only[List.mem_append,List.mem_cons]at c⊢;rcases c with c|c|c
   ·exact .inl c
   ·exact absurd c.symm i
   ·exact .inr c)
  simp only[jL,List.length_cons]at this⊢
  omega
theorem VB{a:List (Lit×DataW Value)}(c:a.Pairwise (λp q=>p.1≠q.1)){L:List Lit}(d:∀p∈a,p.1∈L):a.length<=L.length:=by
 have:=xI (a.map Prod.fst) L (kJ.2 c) (λx g=>by
  obtain⟨p,c,rfl⟩:=List.mem_map.1 g;exact d p c)
 simpa using this
theorem aY.bounded(h:aY w k b f)(K:Keyed prog k)(L:List Lit)(j:∀x,f x≠none->x∈L):∃D,w.ownsMap prog k jH b L.length D/\iE D f:=by
 obtain⟨D,n,h,hd⟩:=h;obtain⟨a,rfl,o,l⟩:=h.entries K
 have r:=VB o (L:=L) (λp g=>j _ (λm=>by
  have c:=(hd p.1).1;rw[m]at c;have i:Maps.has (.map a) p.1=true:=jm.2 ⟨p,g,WideAt.sameKey_self (l p g)⟩;rw[i]at c;cases c))
 obtain⟨d,clock,hb,F,s,hD⟩:=h;refine⟨.map a,⟨d,clock,hb,F,?_,hD⟩,hd⟩
 have q:a.length=d.size:=by
  injection hD with hD;rw[hD,Go.length_sorted]
  simp
 omega
theorem aY.update(h:aY w k b f)(K:Keyed prog k)(m:prog.underlying t=some (.map k e))(L:List Lit)(i:∀x,f x≠none->x∈L)(j:L.length<maxLen)(c:keyOf prog k key=some kl)(v:Value):∃w',(Instr.mapUpdate t (.map (some b)) key v).run prog w=.ok () w'/\aY w' k b (iR f kl (some v))/\w.grownBy w' (some b)/\w'.heap.size=w.heap.size:=by
 obtain⟨D,h,hd⟩:=h.bounded K L i;obtain⟨w',l,g,a⟩:=h.store K m j c (d:=.held v) (ps:=[]) rfl;refine⟨w',l,⟨_,_,g,hd.put h.isMap (K.key c) v⟩,a.grown,?_⟩;obtain⟨o,clock,p,n,_,rfl⟩:=a
 simp[setBlock]
theorem aY.drop{w:World}{k:TypeId}{b:Nat}{f:Lit->Option Value}{t e:TypeId}(h:aY w k b f)(K:Keyed prog k)(j:prog.underlying t=some (.map k e)){key:Value}{kl:Lit}(g:keyOf prog k key=some kl)(c:TypeId):
  ∃w',(Builtin.delete_ #[t,k] c #[.map (some b),key]).run prog w=.ok (.tuple #[]) w'/\aY w' k b (iR f kl none)/\w.grownBy w' (some b)/\w'.heap.size=w.heap.size:=by
 obtain⟨D,n,h,hd⟩:=h;obtain⟨w',i,d,a⟩:=h.drop K j g c;refine⟨w',i,⟨_,_,d,hd.del kl⟩,a.grown,?_⟩;obtain⟨m,clock,o,l,_,rfl⟩:=a
 simp[setBlock]
end Mem
end Go.Proofs.YtndkohocgfmamaaGreatDoor
