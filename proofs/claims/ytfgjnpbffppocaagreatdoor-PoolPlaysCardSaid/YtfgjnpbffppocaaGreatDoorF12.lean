/- Part. -/
import Derived.Test.YtfgjnpbffppocaaGreatDoorF0
import Derived.Test.YtfgjnpbffppocaaGreatDoorF2
import Derived.Maps.OwnSet
import Derived.Maps.Range
import Derived.StringKeys
namespace Go.Proofs.YtfgjnpbffppocaaGreatDoor
namespace Mem
open Go.RowKit Go.Deep
open Go.Maps (Keyed)
open Go.MapKept Go.ChangeMaps
def anyR (v:Value):Option (DataW Value×List MemPlace):=some (.held v,[])
theorem anyR_inv {v u:Value} {ps:List MemPlace} (h:anyR v=some (.held u,ps)):v=u:=by
 unfold anyR at h;injection h with h;injection h with h _;injection h
def Desc (D:DataW Value) (f:Lit->Option Value):Prop:=∀kl,Maps.has D kl=(f kl).isSome/\∀v,f kl=some v->∀z,D.atKey kl z=.held v
def MapIs (w:World) (k:TypeId) (b:Nat) (f:Lit->Option Value):Prop:=∃D n,w.ownsMap Tryz.prog k anyR b n D/\Desc D f
theorem desc_empty:Desc (.map []) (λ_=>none):=λ_=>⟨rfl,λ_ h=>by cases h⟩
theorem MapIs.made (w:World) (k:TypeId):MapIs (w.alloc (.map #[] 0)) k w.heap.size (λ_=>none):=⟨_,0,World.ownsMap_made w Tryz.prog k anyR,desc_empty⟩
theorem MapIs.lt {w:World} {k:TypeId} {b:Nat} {f:Lit->Option Value} (h:MapIs w k b f):b<w.heap.size:=by
 obtain⟨D,n,h,_⟩:=h;exact h.lt
theorem MapIs.keep {w w':World} {k:TypeId} {b:Nat} {f:Lit->Option Value} (h:MapIs w k b f) (hb:w'.heap[b]? =w.heap[b]?):MapIs w' k b f:=by
 obtain⟨D,n,⟨es,clock,h1,h2⟩,hd⟩:=h;exact⟨D,n,⟨es,clock,hb.trans h1,h2⟩,hd⟩
noncomputable def setK (f:Lit->Option Value) (k:Lit) (v:Option Value):Lit->Option Value:=λx=>open Classical in if x=k then v else f x
theorem setK_same (f:Lit->Option Value) (k:Lit) (v:Option Value):setK f k v k=v:=by unfold setK;rw[if_pos rfl]
theorem setK_other {f:Lit->Option Value} {k x:Lit} (v:Option Value) (h:x≠k):setK f k v x=f x:=by unfold setK;rw[if_neg h]
theorem Desc.put {D:DataW Value} {f:Lit->Option Value} (h:Desc D f) (hD:Maps.IsMap D) {k:Lit} (hk:WideAt.IsKeyLit k) (v:Value):Desc (D.put k (.held v)) (setK f k (some v)):=λx=>by
 by_cases hx:x=k
 ·subst hx;rw[setK_same];exact⟨Maps.has_put_same hD hk _,λu hu z=>by cases hu;exact Maps.atKey_put_same hD hk _ _⟩
 ·rw[setK_other _ hx];refine⟨(Maps.has_put_other hx _).trans (h x).1,λu hu z=>(Maps.atKey_put_other hx _ _).trans ((h x).2 u hu z)⟩
theorem Desc.del {D:DataW Value} {f:Lit->Option Value} (h:Desc D f) (k:Lit):Desc (D.del k) (setK f k none):=λx=>by
 by_cases hx:x=k
 ·subst hx;rw[setK_same];exact⟨Maps.has_del_same,λu hu z=>by cases hu⟩
 ·rw[setK_other _ hx];refine⟨(Maps.has_del_other hx).trans (h x).1,λu hu z=>(Maps.atKey_del_other hx _).trans ((h x).2 u hu z)⟩
theorem MapIs.look {w:World} {k:TypeId} {b:Nat} {f:Lit->Option Value} {t e:TypeId} (h:MapIs w k b f) (K:Keyed Tryz.prog k) (ht:Tryz.prog.underlying t=some (.map k e)) {z:Value} (hz:∀w,(zeroValue e).run Tryz.prog w=.ok z w)
  {key:Value} {kl:Lit} (hkey:keyOf Tryz.prog k key=some kl): (Instr.lookup t (.map (some b)) key false).run Tryz.prog w=.ok ((f kl).getD z) w:=by
 obtain⟨D,n,h,hd⟩:=h;obtain⟨v,ps,hrun,hv⟩:=h.lookup K ht (hz w) (zd:=.held z) (zp:=[]) rfl hkey
 have e:v=(f kl).getD z:=by
  cases hf:f kl with
  |none=>
   have h1:=(hd kl).1;rw[hf]at h1;rw[Maps.atKey_of_not_has h1]at hv;exact anyR_inv hv
  |some u=>
   rw[(hd kl).2 u hf]at hv;exact anyR_inv hv
 rw[hrun,e]
theorem MapIs.look_ok {w:World} {k:TypeId} {b:Nat} {f:Lit->Option Value} {t e:TypeId} (h:MapIs w k b f) (K:Keyed Tryz.prog k) (ht:Tryz.prog.underlying t=some (.map k e)) {z:Value} (hz:∀w,(zeroValue e).run Tryz.prog w=.ok z w)
  {key:Value} {kl:Lit} (hkey:keyOf Tryz.prog k key=some kl): (Instr.lookup t (.map (some b)) key true).run Tryz.prog w=.ok (.tuple #[(f kl).getD z,.bool (f kl).isSome]) w:=by
 obtain⟨D,n,h,hd⟩:=h;obtain⟨v,ps,hrun,hv⟩:=h.look_ok K ht (hz w) (zd:=.held z) (zp:=[]) rfl hkey;rw[hrun,(hd kl).1]
 have e:v=(f kl).getD z:=by
  cases hf:f kl with
  |none=>
   have h1:=(hd kl).1;rw[hf]at h1;rw[Maps.atKey_of_not_has h1]at hv;exact anyR_inv hv
  |some u=>
   rw[(hd kl).2 u hf]at hv;exact anyR_inv hv
 rw[e]
theorem nodup_len:∀(l L:List Lit),l.Pairwise (·≠·)->(∀x∈l,x∈L)->l.length<=L.length
 | [],_,_,_=>Nat.zero_le _
 |a ::r,L,hp,hs=>by
  obtain⟨h1,h2⟩:=List.pairwise_cons.1 hp;obtain⟨s,t,rfl⟩:=List.append_of_mem (hs a (by simp))
  have:=nodup_len r (s++t) h2 (λx hx=>by
   have h3:=hs x (by simp[hx]);have h4:=h1 x hx;simp only[List.mem_append,List.mem_cons]at h3⊢;rcases h3 with h3|h3|h3
   ·exact .inl h3
   ·exact absurd h3.symm h4
   ·exact .inr h3)
  simp only[jL,List.length_cons]at this⊢
  omega
theorem size_le_of {es:List (Lit×DataW Value)} (hp:es.Pairwise (λp q=>p.1≠q.1)) {L:List Lit} (hL:∀p∈es,p.1∈L):es.length<=L.length:=by
 have:=nodup_len (es.map Prod.fst) L (List.pairwise_map.2 hp) (λx hx=>by
  obtain⟨p,hp,rfl⟩:=List.mem_map.1 hx;exact hL p hp)
 simpa using this
theorem MapIs.bounded {w:World} {k:TypeId} {b:Nat} {f:Lit->Option Value} (h:MapIs w k b f) (K:Keyed Tryz.prog k) (L:List Lit) (hL:∀x,f x≠none->x∈L):∃D,w.ownsMap Tryz.prog k anyR b L.length D/\Desc D f:=by
 obtain⟨D,n,h,hd⟩:=h;obtain⟨es,rfl,hp,hk⟩:=h.entries K
 have hle:=size_le_of hp (L:=L) (λp hpm=>hL _ (λhn=>by
  have h1:=(hd p.1).1;rw[hn]at h1;have h2:Maps.has (.map es) p.1=true:=List.any_eq_true.2 ⟨p,hpm,WideAt.sameKey_self (hk p hpm)⟩;rw[h2]at h1;cases h1))
 obtain⟨es',clock,hb,F,hs,hD⟩:=h;refine⟨.map es,⟨es',clock,hb,F,?_,hD⟩,hd⟩
 have e1:es.length=es'.size:=by
  injection hD with hD;rw[hD,Go.length_sorted]
  simp
 omega
theorem MapIs.update {w:World} {k:TypeId} {b:Nat} {f:Lit->Option Value} {t e:TypeId} (h:MapIs w k b f) (K:Keyed Tryz.prog k) (ht:Tryz.prog.underlying t=some (.map k e)) (L:List Lit) (hL:∀x,f x≠none->x∈L) (hn:L.length<maxLen)
  {key:Value} {kl:Lit} (hkey:keyOf Tryz.prog k key=some kl) (v:Value):∃w',(Instr.mapUpdate t (.map (some b)) key v).run Tryz.prog w=.ok () w'/\MapIs w' k b (setK f kl (some v))/\w.grownBy w' (some b)/\w'.heap.size=w.heap.size:=by
 obtain⟨D,h,hd⟩:=h.bounded K L hL;obtain⟨w',hrun,h1,h2⟩:=h.store K ht hn hkey (d:=.held v) (ps:=[]) rfl;refine⟨w',hrun,⟨_,_,h1,hd.put h.isMap (K.key hkey) v⟩,h2.grown,?_⟩;obtain⟨es,clock,es',clock',_,rfl⟩:=h2
 simp[setBlock]
theorem MapIs.drop {w:World} {k:TypeId} {b:Nat} {f:Lit->Option Value} {t e:TypeId} (h:MapIs w k b f) (K:Keyed Tryz.prog k) (ht:Tryz.prog.underlying t=some (.map k e)) {key:Value} {kl:Lit} (hkey:keyOf Tryz.prog k key=some kl) (ty:TypeId):
  ∃w',(Builtin.delete_ #[t,k] ty #[.map (some b),key]).run Tryz.prog w=.ok (.tuple #[]) w'/\MapIs w' k b (setK f kl none)/\w.grownBy w' (some b)/\w'.heap.size=w.heap.size:=by
 obtain⟨D,n,h,hd⟩:=h;obtain⟨w',hrun,h1,h2⟩:=h.drop K ht hkey ty;refine⟨w',hrun,⟨_,_,h1,hd.del kl⟩,h2.grown,?_⟩;obtain⟨es,clock,es',clock',_,rfl⟩:=h2
 simp[setBlock]
end Mem
end Go.Proofs.YtfgjnpbffppocaaGreatDoor
