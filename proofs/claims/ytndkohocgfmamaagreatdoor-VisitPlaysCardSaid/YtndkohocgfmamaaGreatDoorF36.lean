/- Part. -/
import Derived.Test.YtndkohocgfmamaaGreatDoorF4
import Derived.Test.YtndkohocgfmamaaGreatDoorF6
import Derived.DeepKeys4
set_option maxRecDepth 100000
namespace Go.Proofs.YtndkohocgfmamaaGreatDoor
open Go.Proofs.Tryz
namespace aX
open Go.RowKit Go.Deep Mem Go.MapKept Go.ChangeMaps
open Go.Maps (Keyed)
theorem laidOut:laidOutB prog=true:=by kernel_rfl
theorem H8: (99:TypeId) <prog.types.size:=of_decide_eq_true (by kernel_rfl)
theorem Sz: (match prog.underlying 99 with|some (.array _ _)|some (.struct _)=>true|_=>false)=true:=by rw[underlying99]
theorem qi:Keyed prog 99:=Keyed.of_law (deep_law_laid laidOut (m:=2) (by omega) H8 (by kernel_rfl) Sz)
def lX(k:Nat):Value:=.agg #[.int .u32 ((k/4294967296:Nat):Int),.int .u32 ((k%4294967296:Nat):Int)]
def dY(k:Nat):Lit:=.string (bB 8 k)
theorem H9(n:Nat)(h:n<4294967296):bytesBE 4 n=bB 4 n:=by
 unfold bytesBE;simp only[bytesLE,List.reverse_cons,List.reverse_nil,List.nil_append,List.cons_append,List.append_nil,bB];have e:∀a b:Nat,a%256=b%256->UInt8.ofNat a=UInt8.ofNat b:=λa b=>Ia
 congr 1
 ·apply e;omega
 congr 1
 ·apply e;omega
 congr 1
 ·apply e;omega
 congr 1
 apply e;omega
theorem Ib:prog.cellsOf 99=2:=by kernel_rfl
theorem SA:prog.cellsOf 46=1:=by kernel_rfl
theorem SB:prog.keyType 99=true:=by kernel_rfl
theorem SC(x y:Value): (Value.agg #[x,y]).formed prog 99=true:=by simp[Value.formed,underlying99,Ib]
theorem SE(d:Nat)(a:Nat)(w1: (Lit.int .u32 (a:Int)).wf=true):prog.keyLits (d+1) 46 [.int .u32 (a:Int)]=some [.int .u32 (a:Int)]:=by
 unfold Program.keyLits;rw[underlying46]
 simp[w1]
theorem SF(d:Nat)(a b:Nat)(w1: (Lit.int .u32 (a:Int)).wf=true)(w2: (Lit.int .u32 (b:Int)).wf=true):prog.keyLits (d+2) 99 [.int .u32 (a:Int),.int .u32 (b:Int)]=some [.int .u32 (a:Int),.int .u32 (b:Int)]:=by
 unfold Program.keyLits;rw[underlying99]
 simp[Ib,SA,SE,w1,w2]
theorem SG{n:Nat}(k:Nat)(h:k<n):∃d,n=d+1:=⟨n-1,by omega⟩
theorem xG(k:Nat)(j:k<=av):keyOf prog 99 (lX k)=some (dY k):=by
 have c:k/4294967296<4294967296:=by unfold av at j;omega
 have e:k%4294967296<4294967296:=fJ _ (by decide);obtain⟨a,ha⟩:=jl (k/4294967296);obtain⟨b,hb⟩:=jl (k%4294967296)
 have i:bB 8 k=bB 4 a++bB 4 b:=by
  rw[SH a b (by omega),ha,hb]
  congr 1
  omega
 unfold lX dY;rw[i,<-ha,<-hb];rw[<-ha]at c;rw[<-hb]at e;have w1: (Lit.int .u32 (a:Int)).wf=true:=WalkArith.wf_u32 (by omega);have w2: (Lit.int .u32 (b:Int)).wf=true:=WalkArith.wf_u32 (by omega);obtain⟨d,hd⟩:∃d,prog.types.size=d+1:=SG _ H8;unfold keyOf;rw[underlying99];dsimp only;rw[SB,SC,hd];simp only[Bool.and_self,if_true];show Option.map (λls=>Lit.string (keyBytes ls)) (prog.keyLits (d+2) 99 [.int .u32 (a:Int),.int .u32 (b:Int)])=_;rw[SF d a b w1 w2];have g: ((a:Int)%4294967296).toNat=a:=by omega
 have h: ((b:Int)%4294967296).toNat=b:=by omega
 simp[keyBytes,Lit.keyBytes,IntKind.bits,g,h,H9 a c,H9 b e]
structure nA(f:Lit->Option Value)(H:List KC):Prop where
 at_:∀k,k<=av->f (dY k)=if tot H k=0 then none else some (.int .u64 ((tot H k:Nat):Int))
 keys:∀x,f x≠none->∃k,k<=av/\x=dY k
variable {b:Nat}{f:Lit->Option Value}{H:List KC}
theorem Be{a:Nat}(ha:a<=av)(hb:b<=av)(h:dY a=dY b):a=b:=by
 unfold dY at h;injection h with h;exact Bf (p64 ha) (p64 hb) h
theorem Ic:nA (λ_=>none) []:=⟨λk _=>by simp[iX],λx h=>absurd rfl h⟩
theorem nA.put(h:nA f H){p:KC}(a:iI p):nA (iR f (dY p.1) (some (.int .u64 ((sat (tot H p.1+p.2):Nat):Int)))) (fH H p):=by
 refine⟨λk c=>?_,λx d=>?_⟩
 ·rw[Bg]
  by_cases e:k=p.1
  ·subst e;rw[kK,if_pos rfl,if_neg];have:=a.2.1;unfold sat
   split
   ·omega
   ·decide
  ·rw[fQ _ (λh=>e (Be c a.1 h)),if_neg e];exact h.at_ k c
 ·by_cases e:x=dY p.1
  ·exact⟨p.1,a.1,e⟩
  ·rw[fQ _ e]at d;exact h.keys x d
def bM(w:World)(b:Nat)(H:List KC):Prop:=∃f,aY w 99 b f/\nA f H
theorem bM.keep{w w':World}{b:Nat}{H:List KC}(h:bM w b H)(hb:w'.heap[b]? =w.heap[b]?):bM w' b H:=by
 obtain⟨f,a,c⟩:=h;exact⟨f,a.keep hb,c⟩
theorem bM.lt{w:World}{b:Nat}{H:List KC}(h:bM w b H):b<w.heap.size:=by
 obtain⟨f,a,_⟩:=h;exact a.lt
theorem bM.made(w:World):bM (w.alloc (.map #[] 0)) w.heap.size []:=⟨_,aY.made w _,Ic⟩
theorem Ie(w:World): (zeroValue 47).run prog w=.ok (.int .u64 0) w:=by kernel_rfl
theorem Ig(n:Nat): (if n=0 then none else some (Value.int .u64 ((n:Nat):Int))).getD (.int .u64 0)=.int .u64 (n:Int):=by
 split
 ·rename_i h;rw[h];rfl
 ·rfl
theorem bM.look_ok{w:World}{b:Nat}{H:List KC}(h:bM w b H)(k:Nat)(a:k<=av): (Instr.lookup 67 (.map (some b)) (lX k) true).run prog w=.ok (.tuple #[.int .u64 ((tot H k:Nat):Int),.bool (decide (tot H k≠0))]) w:=by
 obtain⟨f,c,d⟩:=h;rw[c.look_ok qi underlying67 Ie (xG k a),d.at_ k a,Ig]
 by_cases e:tot H k=0 <;> simp[e]
theorem bM.look{w:World}{b:Nat}{H:List KC}(h:bM w b H)(k:Nat)(a:k<=av): (Instr.lookup 67 (.map (some b)) (lX k) false).run prog w=.ok (.int .u64 ((tot H k:Nat):Int)) w:=by
 obtain⟨f,c,d⟩:=h;rw[c.look qi underlying67 Ie (xG k a),d.at_ k a,Ig]
theorem nA.support(h:nA f H):∀x,f x≠none->x∈H.map (λp=>dY p.1):=λx c=>by
 obtain⟨k,i,rfl⟩:=h.keys x c;rw[h.at_ k i]at c;have g:tot H k≠0:=λe=>c (by rw[if_pos e])
 by_cases d:∃p∈H,p.1=k
 ·obtain⟨p,a,rfl⟩:=d;exact List.mem_map.2 ⟨p,a,rfl⟩
 ·exact absurd (xH (λp a e=>d ⟨p,a,e⟩)) g
theorem bM.len{w:World}{b:Nat}{H:List KC}(h:bM w b H)(g:Held H)(r:TypeId): (Builtin.len_ #[67] r #[.map (some b)]).run prog w=.ok (.int .i64 (H.length:Int)) w:=by
 obtain⟨f,⟨D,n,k,hd⟩,l⟩:=h;rw[k.len underlying67 r];obtain⟨j,rfl,z,v⟩:=k.entries qi;have s: (j.map Prod.fst).Nodup:=kJ.2 z;have t: (H.map (λp=>dY p.1)).Nodup:=kJ.2 (g.one.imp_of_mem (fun{a b} ha hb hne e=>hne (Be (g.ok a ha).1 (g.ok b hb).1 e)))
 have m:∀x,x∈j.map Prod.fst↔x∈H.map (λp=>dY p.1):=λx=>by
  constructor
  ·intro c;obtain⟨p,i,rfl⟩:=List.mem_map.1 c;refine l.support _ (λy=>?_);have d:=(hd p.1).1;rw[y]at d;have u:Maps.has (.map j) p.1=true:=jm.2 ⟨p,i,WideAt.sameKey_self (v p i)⟩;rw[u]at d;cases d
  ·intro c;obtain⟨p,i,rfl⟩:=List.mem_map.1 c;have d:=(hd (dY p.1)).1;rw[l.at_ p.1 (g.ok p i).1,g.tot i,if_neg (by have:=(g.ok p i).2.1;omega)]at d;obtain⟨q,hq,A⟩:=jm.1 d;exact List.mem_map.2 ⟨q,hq,WideAt.sameKey_eq A⟩
 have o: (j.map Prod.fst).length=(H.map (λp=>dY p.1)).length:=by
  have B:=xI (j.map Prod.fst) _ s (λx c=>(m x).1 c);have C:=xI (H.map (λp:KC=>dY p.1)) _ t (λx c=>(m x).2 c)
  omega
 rw[jP,jP]at o
 simp[Maps.size,o]
theorem bM.update{w:World}{b:Nat}{H:List KC}(h:bM w b H)(k:Held H)(l:H.length<1000000)(p:KC)(c:iI p):∃w',(Instr.mapUpdate 67 (.map (some b)) (lX p.1) (.int .u64 ((sat (tot H p.1+p.2):Nat):Int))).run prog w=.ok () w'/\bM w' b (fH H p)/\w.grownBy w' (some b)/\w'.heap.size=w.heap.size:=by
 obtain⟨f,d,a⟩:=h;obtain⟨w',j,e,g,i⟩:=d.update qi underlying67 _ a.support (by rw[jP];unfold maxLen;omega) (xG p.1 c.1) (.int .u64 ((sat (tot H p.1+p.2):Nat):Int));exact⟨w',j,⟨_,e,a.put c⟩,g,i⟩
theorem bM.clear{w:World}(h:bM w b H)(c:TypeId):∃w',(Builtin.clear_ #[67] c #[.map (some b)]).run prog w=.ok (.tuple #[]) w'/\bM w' b []/\w.grownBy w' (some b)/\w'.heap.size=w.heap.size:=by
 obtain⟨f,⟨D,n,⟨d,clock,hb,hF,_⟩,hd⟩,g⟩:=h;refine⟨setBlock w b (.map #[] clock),by simp[Builtin.clear_,run_underlying underlying67,MapKept.run_getObj_map hb,MapKept.run_setObj_map _ hb,Result.andThen,setBlock],?_,?_,?_⟩
 ·refine⟨λ_=>none,⟨.map [],0,⟨#[],clock,heap_setBlock_same hb _,⟨by simp,stamped_empty clock,by simp⟩,aj _,rfl⟩,zJ⟩,Ic⟩
 ·exact⟨rfl,rfl,rfl,by simp[setBlock],λi _ a=>heap_setBlock_other hb _ (λe=>a (by rw[e]))⟩
 ·simp[setBlock]
end aX
end Go.Proofs.YtndkohocgfmamaaGreatDoor
