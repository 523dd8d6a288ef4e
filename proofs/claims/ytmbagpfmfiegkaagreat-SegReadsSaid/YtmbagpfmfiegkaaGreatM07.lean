/- Contracts of functions and lemmas for segReads_holds, part 7. -/
import Derived.Test.YtmbagpfmfiegkaaGreatM06
set_option maxHeartbeats 8000000
set_option maxRecDepth 100000
set_option linter.all false
namespace Go.Proofs.YtmbagpfmfiegkaaGreat
open Go.Proofs.YtmbagpfmfiegkaaGreatAw Go.RowKit
def et(b:List Nat):Nat→Nat→Nat
 |_,0=>0
 |i,m+1=>b.getD i 0%128+128* et b (i+1) m
theorem xK(b:List Nat)(i:Nat):et b i 0=0:=rfl
theorem lj(b:List Nat):∀(m i:Nat),et b i (m+1)=et b i m+b.getD (i+m) 0%128* 128^m
 |0,i=>by simp[et]
 |m+1,i=>by
  rw[et,lj b m (i+1),et,Nat.pow_succ,Nat.mul_add,show i+1+m=i+(m+1) by omega]
  rw[show 128* (b.getD (i+(m+1)) 0%128* 128^m)=b.getD (i+(m+1)) 0%128* (128^m* 128) by rw[Nat.mul_comm 128,Nat.mul_assoc]]
  omega
theorem vC(b:List Nat):∀k,k≤9→k≤b.length→(∀i (h:i<b.length),i<k→128≤b[i])→dV 10 0 b=dV (10-k) (et b 0 k) (b.drop k)
 |0,_,_,_=>rfl
 |k+1,hk,hl,h=>by
  rw[vC b k (by omega) (by omega) fun i hi hik=>h i hi (by omega)]
  have hb:=h k (by omega) (by omega)
  rw[List.drop_eq_getElem_cons (show k<b.length by omega),show 10-k=(9-k)+1 by omega,dV]
  rw[if_neg (by omega),if_neg (by omega),show 9-(9-k)=k by omega,show 10-(k+1)=9-k by omega,lj]
  congr 2
  simp[List.getD,show k<b.length by omega]
theorem Bv(b:List Nat)(k:Nat)(hk:k≤9)(hl:k=b.length)(h:∀i (h:i<b.length),i<k→128≤b[i]):aQ b=(0,0,3):=by
 unfold aQ
 rw[vC b k hk (by omega) h,List.drop_of_length_le (by omega),show 10-k=(9-k)+1 by omega]
 rfl
theorem DT(b:List Nat)(k:Nat)(hk:k≤9)(hl:k<b.length)(h:∀i (h:i<b.length),i<k→128≤b[i])(hs:k=9∨b[k]<128):
  aQ b=if(k=9∧1<b[k])∨(0<k∧b[k]=0)then(0,0,4)else(et b 0 (k+1),k+1,0):=by
 unfold aQ
 rw[vC b k hk (by omega) h,List.drop_eq_getElem_cons hl,show 10-k=(9-k)+1 by omega,dV,show 9-(9-k)=k by omega]
 by_cases hc:(k=9∧1<b[k])∨(0<k∧b[k]=0)
 ·rw[if_pos (by omega),if_pos hc]
 ·rw[if_neg (by omega),if_neg hc,if_pos (by omega)]
  simp only[lj,Nat.zero_add,List.length_drop]
  simp[List.getD,hl]
  omega
theorem oV(b:List Nat)(t:Nat):∀(j i:Nat),et b (i+j) t≤et b i (j+t)
 |0,i=>by simp
 |j+1,i=>by
  have:=oV b t j (i+1)
  rw[show j+1+t=(j+t)+1 by omega,et,show i+(j+1)=i+1+j by omega]
  omega
theorem fx(b:List Nat)(nn:Bool)(hl:b.length≤140737488351232)(hb:∀c∈b,c<256)(H:aa):
  ag Tryz.prog 50 [.d (.list nn (aD b))] H (.ok (.bz [du (aQ b).1,iA (aQ b).2.1,iA (aQ b).2.2])) H:=by
 have hlt64:=fh b
 refine ag.aj (hint:=(fun _=>false)) Tryz.func50 (by kernel_rfl) rfl [2,3,4] (by kernel_rfl) (by decide) (by simp[Tryz.ntmps50]) ?_
 rw[Tryz.ntmps50]
 simp -implicitDefEqProofs only[go_sem]
 refine n4 (fun s H'=>H'=H∧∃k:Nat,k≤9∧k≤b.length∧(∀i (h:i<b.length),i<k→128≤b[i])∧(∀h:k<b.length,k=9∨b[k]<128)∧s 0= .d (.list nn (aD b))∧s 5=iA k) rfl ?_ ?_
 ·refine cl _ _ _ _ (fun(k:Nat) s H'=>H'=H∧k≤9∧k≤b.length∧(∀i (h:i<b.length),i<k→128≤b[i])∧s 0= .d (.list nn (aD b))∧s 5=iA k) (fun k=>9-k) 0 (ay.refl _ _) ?_ ?_
  ·refine⟨rfl,by omega,by omega,fun i h h2=>by omega,?_⟩
   simp -implicitDefEqProofs only[↓reduceIte,go_sem,Nat.reduceLT,reduceCtorEq]
  ·rintro k s H' ⟨rfl,hk9,hkl,hge,t0,t5⟩
   have hwk:=yJ (k+1) (by omega)
   rw[show((k+1:Nat):Int)=(k:Int)+1 by omega]at hwk
   by_cases h1:k<b.length
   ·have hx:=ow b k h1
    have hstop:(k=9∨b[k]<128)→∀h:k<b.length,k=9∨b[k]<128:=fun h _=>h
    have hge2:128≤b[k]→∀i (h:i<b.length),i<k+1→128≤b[i]:=fun h i h2 h3=>by
     by_cases e:i=k
     ·subst e;exact h
     ·exact hge i h2 (by omega)
    generalize b[k]=c at hx hstop hge2
    by_cases h2:k=9
    ·simp -implicitDefEqProofs only[↓reduceIte,go_sem,Nat.reduceLT,Nat.reduceEqDiff,reduceCtorEq,t0,t5,ai,h1,show((k:Int)<9)=False from eq_false (by omega)]
     exact⟨k,hk9,hkl,hge,hstop (.inl h2),rfl⟩
    by_cases h3:c<128
    ·simp -implicitDefEqProofs only[↓reduceIte,go_sem,Nat.reduceLT,Nat.reduceEqDiff,reduceCtorEq,t0,t5,ai,h1,show((k:Int)<9)=True from eq_true (by omega),hx,show(128≤(c:Int))=False from eq_false (by omega)]
     exact⟨k,hk9,hkl,hge,hstop (.inr h3),rfl⟩
    by_cases h4:k=0
    ·simp -implicitDefEqProofs only[↓reduceIte,go_sem,Nat.reduceLT,Nat.reduceEqDiff,reduceCtorEq,t0,t5,ai,h1,show((k:Int)<9)=True from eq_true (by omega),hx,show(128≤(c:Int))=True from eq_true (by omega),show(0<(k:Int))=False from eq_false (by omega)]
     refine⟨_,_,k+1,.refl _ _,⟨rfl,by omega,by omega,hge2 (by omega),?_⟩,by omega⟩
     simp -implicitDefEqProofs only[↓reduceIte,go_sem,Nat.reduceLT,reduceCtorEq,t0,hwk]
    ·simp -implicitDefEqProofs only[↓reduceIte,go_sem,Nat.reduceLT,Nat.reduceEqDiff,reduceCtorEq,t0,t5,ai,h1,show((k:Int)<9)=True from eq_true (by omega),hx,show(128≤(c:Int))=True from eq_true (by omega),show(0<(k:Int))=True from eq_true (by omega),show((c:Int)=0)=False from eq_false (by omega)]
     refine⟨_,_,k+1,.refl _ _,⟨rfl,by omega,by omega,hge2 (by omega),?_⟩,by omega⟩
     simp -implicitDefEqProofs only[↓reduceIte,go_sem,Nat.reduceLT,reduceCtorEq,t0,hwk]
   ·simp -implicitDefEqProofs only[↓reduceIte,go_sem,Nat.reduceLT,Nat.reduceEqDiff,reduceCtorEq,t0,t5,ai,show((k:Int)<(b.length:Int))=False from eq_false (by omega)]
    exact⟨k,hk9,hkl,hge,fun h=>absurd h h1,rfl⟩
 ·rintro s H' ⟨rfl,k,hk9,hkl,hge,hstop,t0,t5⟩
  by_cases h1:k=b.length
  ·rw[Bv b k hk9 h1 hge]
   simp -implicitDefEqProofs only[↓reduceIte,go_sem,Nat.reduceLT,Nat.reduceEqDiff,reduceCtorEq,t0,t5,ai,show((k:Int)=(b.length:Int))=True from eq_true (by omega)]
   refine aw.aI ?_
   simp -implicitDefEqProofs only[↓reduceIte,go_sem,Nat.reduceLT,Nat.reduceEqDiff]
   rfl
  have hlt:k<b.length:=by omega
  have hgp:=DT b k hk9 hlt hge (hstop hlt)
  have hx:=ow b k hlt
  have hxb:=hb _ (List.getElem_mem hlt)
  have hs:=hstop hlt
  have hx9:k=9→(aD b)[9]?=some [.v (.int .u8 (b[k]:Int))]:=fun h=>by subst h;exact hx
  have h9l:k=9→9<b.length:=fun h=>by omega
  generalize hc:b[k]=c at*
  have ne:((k:Int)=(b.length:Int))=False:=eq_false (by omega)
  by_cases herr:(k=9∧1<c)∨(0<k∧c=0)
  ·rw[hgp,if_pos herr]
   by_cases hk:k=9
   ·have hx9:=hx9 hk
    have h9l:=h9l hk
    have e9:((k:Int)=9)=True:=eq_true (by omega)
    by_cases hc1:1<c
    ·simp -implicitDefEqProofs only[↓reduceIte,go_sem,Nat.reduceLT,Nat.reduceEqDiff,Int.reduceLE,Int.reduceToNat,reduceCtorEq,t0,t5,ai,ne,e9,hx9,show(1<(c:Int))=True from eq_true (by omega)]
     refine aw.aI ?_
     simp -implicitDefEqProofs only[↓reduceIte,go_sem,Nat.reduceLT,Nat.reduceEqDiff]
     rfl
    ·simp -implicitDefEqProofs only[↓reduceIte,go_sem,Nat.reduceLT,Nat.reduceEqDiff,Int.reduceLE,Int.reduceToNat,reduceCtorEq,t0,t5,ai,ne,e9,hx9,show(1<(c:Int))=False from eq_false (by omega),show(0<(k:Int))=True from eq_true (by omega),hx,show((c:Int)=0)=True from eq_true (by omega)]
     refine aw.aI ?_
     simp -implicitDefEqProofs only[↓reduceIte,go_sem,Nat.reduceLT,Nat.reduceEqDiff]
     rfl
   ·simp -implicitDefEqProofs only[↓reduceIte,go_sem,Nat.reduceLT,Nat.reduceEqDiff,reduceCtorEq,t0,t5,ai,ne,show((k:Int)=9)=False from eq_false (by omega),show(0<(k:Int))=True from eq_true (by omega),hx,show((c:Int)=0)=True from eq_true (by omega)]
    refine aw.aI ?_
    simp -implicitDefEqProofs only[↓reduceIte,go_sem,Nat.reduceLT,Nat.reduceEqDiff]
    rfl
  ·rw[if_neg herr]at hgp
   rw[hgp]at hlt64⊢
   simp only at hlt64⊢
   have hf:((((k:Int)=9)=True∧(1<(c:Int))=False∧(0<(k:Int))=True∧((c:Int)=0)=False∧(9<(b.length:Int))=True∧(9<b.length)=True∧(aD b)[9]?=some [.v (.int .u8 (c:Int))]))∨((((k:Int)=9)=False∧(0<(k:Int))=False))∨((((k:Int)=9)=False∧(0<(k:Int))=True∧((c:Int)=0)=False)):=by
    by_cases hk:k=9
    ·exact .inl ⟨eq_true (by omega),eq_false (by omega),eq_true (by omega),eq_false (by omega),eq_true (by omega),eq_true (by omega),hx9 hk⟩
    ·by_cases h0:k=0
     ·exact .inr (.inl ⟨eq_false (by omega),eq_false (by omega)⟩)
     ·exact .inr (.inr ⟨eq_false (by omega),eq_true (by omega),eq_false (by omega)⟩)
   rcases hf with hf|hf|hf
   all_goals
    simp -implicitDefEqProofs only[↓reduceIte,go_sem,Nat.reduceLT,Nat.reduceEqDiff,Int.reduceLE,Int.reduceToNat,reduceCtorEq,t0,t5,ai,ne,hf,hx]
    refine aP (fun j s H2=>H2=H'∧s 0= .d (.list nn (aD b))∧s 5=iA k∧s 6=du (et b (k+1-j) j)∧s 7=iA ((k:Int)-j)) (k+1) (by omega) (ay.refl _ _) ?_ ?_ ?_
    ·rw[xK,show(k:Int)-((0:Nat):Int)=(k:Int) by omega]
     refine⟨rfl,?_⟩
     simp -implicitDefEqProofs only[↓reduceIte,go_sem,Nat.reduceLT,Nat.reduceEqDiff,reduceCtorEq,t0,t5]
     rfl
    ·rintro j s H' hj hw ⟨rfl,t0,t5,t6,t7⟩
     obtain⟨i,hi⟩:∃i,i=k-j:=⟨_,rfl⟩
     have q1:(k:Int)-(j:Int)=(i:Int):=by omega
     have q2:(k:Int)-((j+1:Nat):Int)=(i:Int)-1:=by omega
     have q3:IntKind.i64.wrap ((i:Int)-1)=(i:Int)-1:=wrap64_in _ (by omega) (by omega)
     have q4:et b (k+1-(j+1)) (j+1)=b.getD i 0%128+128* et b (k+1-j) j:=by
      rw[show k+1-(j+1)=i by omega,et,show i+1=k+1-j by omega]
     have q5:=oV b (j+1) i 0
     rw[Nat.zero_add,show i+(j+1)=k+1 by omega]at q5
     rw[show k+1-(j+1)=i by omega]at q4
     have hil:i<b.length:=by omega
     have hy:=ow b i hil
     have hyb:=hb _ (List.getElem_mem hil)
     have q6:b.getD i 0=b[i]:=by simp[List.getD,hil]
     rw[q6]at q4
     rw[q1]at t7
     rw[q2,show k+1-(j+1)=i by omega,q4]
     rw[q4]at q5
     generalize b[i]=y at*
     generalize et b (k+1-j) j=m at*
     have w1:IntKind.u64.wrap ((m:Int)* 128)=(m:Int)* 128:=cg _ (by omega) (by omega)
     have w2:IntKind.u8.wrap ((y%128:Nat):Int)=((y%128:Nat):Int):=mq _ (by omega)
     have w3:IntKind.u64.wrap ((y%128:Nat):Int)=((y%128:Nat):Int):=aK _ (by omega)
     have w4:IntKind.u64.wrap ((m:Int)* 128+((y%128:Nat):Int))=((y%128+128* m:Nat):Int):=by rw[cg _ (by omega) (by omega)];omega
     generalize y%128+128* m=z at*
     simp -implicitDefEqProofs only[↓reduceIte,go_sem,Nat.reduceLT,Nat.reduceEqDiff,Int.reduceEq,reduceCtorEq,t0,t6,t7,hy,C7,w1,w3,w4,q3,show(0≤(i:Int))=True from eq_true (by omega)]
     refine c9.same ⟨rfl,?_⟩
     simp -implicitDefEqProofs only[↓reduceIte,go_sem,Nat.reduceLT,Nat.reduceEqDiff,reduceCtorEq,t0,t5]
    ·rintro s H' ⟨rfl,t0,t5,t6,t7⟩
     rw[Nat.sub_self]at t6
     have hw:IntKind.i64.wrap ((k:Int)+1)=((k+1:Nat):Int):=by rw[wrap64_in _ (by omega) (by omega)];omega
     have q:(k:Int)-((k+1:Nat):Int)=-1:=by omega
     rw[q]at t7
     simp -implicitDefEqProofs only[↓reduceIte,go_sem,Nat.reduceLT,Nat.reduceEqDiff,Int.reduceLE,Int.reduceNeg,t5,t6,t7,hw]
     refine aw.aI ?_
     simp -implicitDefEqProofs only[↓reduceIte,go_sem,Nat.reduceLT,Nat.reduceEqDiff,Int.reduceNeg]
theorem kf(v:aq)(H:aa):ag Tryz.prog 135 [v.av] H (.ok (bA (cA v))) H:=by
 have e0:∀x:ByteArray,(x.toList==(⟨#[]⟩:ByteArray).toList)=decide (x.toList=[]):=fun x=>by
  rw[show(⟨#[]⟩:ByteArray).toList=[]from gl];rw[Bool.eq_iff_iff];simp
 refine ag.aj (hint:=(fun _=>false)) Tryz.func135 (by kernel_rfl) rfl [2] (by kernel_rfl) (by decide) (by simp[Tryz.ntmps135]) ?_
 rw[Tryz.ntmps135]
 by_cases h2:v.kind=2
 ·cases hs:decide (v.s.toList=[])with
  |true=>
   simp -implicitDefEqProofs only[↓reduceIte,go_sem,ah,Nat.reduceAdd,Nat.reduceLT,Nat.reduceLeDiff,Nat.reduceEqDiff,Int.reduceEq,h2]
   refine aO K.mixed (by kernel_rfl) ?_
   simp -implicitDefEqProofs only[↓reduceIte,go_sem,ah,Nat.reduceAdd,Nat.reduceLT,Nat.reduceLeDiff,Nat.reduceEqDiff,jE,e0,hs]
   refine ae.ok (iX _ (im _) _) ?_
   simp -implicitDefEqProofs only[↓reduceIte,go_sem,ah,Nat.reduceAdd,Nat.reduceLT,Nat.reduceLeDiff,Nat.reduceEqDiff,Int.natCast_inj,jE]
   refine aw.ret ?_
   simp -implicitDefEqProofs only[↓reduceIte,go_sem,Nat.reduceLT,cA,h2,hs,Bool.and_true]
   exact congrArg (fun b=>AV.d (D.v (Value.bool b))) (decide_eq_decide.2 eq_comm)
  |false=>
   simp -implicitDefEqProofs only[↓reduceIte,go_sem,ah,Nat.reduceAdd,Nat.reduceLT,Nat.reduceLeDiff,Nat.reduceEqDiff,Int.reduceEq,h2]
   refine aO K.mixed (by kernel_rfl) ?_
   simp -implicitDefEqProofs only[↓reduceIte,go_sem,ah,Nat.reduceAdd,Nat.reduceLT,Nat.reduceEqDiff,reduceCtorEq,e0,hs]
   refine aw.ret ?_
   simp -implicitDefEqProofs only[↓reduceIte,go_sem,Nat.reduceLT,cA,h2,hs,Bool.and_false]
 by_cases h1:v.kind=1
 ·simp -implicitDefEqProofs only[↓reduceIte,go_sem,ah,Nat.reduceAdd,Nat.reduceLT,Nat.reduceLeDiff,Nat.reduceEqDiff,Int.reduceEq,h1,e0]
  refine aw.ret ?_
  simp -implicitDefEqProofs only[↓reduceIte,go_sem,Nat.reduceLT,Int.reduceEq,cA,h1]
 by_cases h3:v.kind=3
 ·by_cases hi:v.i=0
  ·simp -implicitDefEqProofs only[↓reduceIte,go_sem,ah,Nat.reduceAdd,Nat.reduceLT,Nat.reduceLeDiff,Nat.reduceEqDiff,Int.reduceEq,h3,hi]
   refine aw.ret ?_
   simp -implicitDefEqProofs only[↓reduceIte,go_sem,Nat.reduceLT,Int.reduceEq,cA,h3,hi,show((v.s.size:Int)≤1024)=(v.s.size≤1024)from by simp;omega]
  ·simp -implicitDefEqProofs only[↓reduceIte,go_sem,ah,Nat.reduceAdd,Nat.reduceLT,Nat.reduceLeDiff,Nat.reduceEqDiff,Int.reduceEq,reduceCtorEq,h3,hi]
   refine aw.ret ?_
   simp -implicitDefEqProofs only[↓reduceIte,go_sem,Nat.reduceLT,Int.reduceEq,cA,h3,hi]
 by_cases h0:v.kind=0
 ·by_cases hi:v.i=0
  ·simp -implicitDefEqProofs only[↓reduceIte,go_sem,ah,Nat.reduceAdd,Nat.reduceLT,Nat.reduceLeDiff,Nat.reduceEqDiff,eq_true h0,e0,hi]
   refine aw.ret ?_
   simp -implicitDefEqProofs only[↓reduceIte,go_sem,Nat.reduceLT,cA,h1,h2,h3,eq_true h0,hi]
  ·simp -implicitDefEqProofs only[↓reduceIte,go_sem,ah,Nat.reduceAdd,Nat.reduceLT,Nat.reduceLeDiff,Nat.reduceEqDiff,reduceCtorEq,eq_true h0,hi]
   refine aw.ret ?_
   simp -implicitDefEqProofs only[↓reduceIte,go_sem,Nat.reduceLT,cA,h1,h2,h3,eq_true h0,hi]
 simp -implicitDefEqProofs only[↓reduceIte,go_sem,ah,Nat.reduceAdd,Nat.reduceLT,Nat.reduceLeDiff,Nat.reduceEqDiff,h0,h1,h2,h3]
 refine aw.ret ?_
 simp -implicitDefEqProofs only[↓reduceIte,go_sem,Nat.reduceLT,cA,h0,h1,h2,h3]
theorem c7(k:Int)(H:aa):ag Tryz.prog 51 [iA k] H (.ok (bA (bJ k))) H:=by
 have e:bJ k=if k=1 then true else if k=2 then true else decide (k=3):=by
  unfold bJ
  rw[Bool.eq_iff_iff]
  simp only[Bool.and_eq_true,decide_eq_true_eq]
  split
  ·simp;omega
  ·split
   ·simp;omega
   ·simp;omega
 refine ag.aj (hint:=(fun _=>false)) Tryz.func51 (by kernel_rfl) rfl [2] (by kernel_rfl) (by decide) (by simp[Tryz.ntmps51]) ?_
 rw[Tryz.ntmps51]
 by_cases h1:k=1
 ·rw[if_pos h1]at e
  simp -implicitDefEqProofs only[↓reduceIte,go_sem,Nat.reduceLT,Nat.reduceEqDiff,reduceCtorEq,eq_true h1]
  refine aw.aI ?_
  simp -implicitDefEqProofs only[↓reduceIte,go_sem,Nat.reduceLT,e]
 rw[if_neg h1]at e
 by_cases h2:k=2
 ·rw[if_pos h2]at e
  simp -implicitDefEqProofs only[↓reduceIte,go_sem,Nat.reduceLT,Nat.reduceEqDiff,reduceCtorEq,h1,eq_true h2]
  refine aw.aI ?_
  simp -implicitDefEqProofs only[↓reduceIte,go_sem,Nat.reduceLT,e]
 rw[if_neg h2]at e
 simp -implicitDefEqProofs only[↓reduceIte,go_sem,Nat.reduceLT,Nat.reduceEqDiff,reduceCtorEq,h1,h2]
 refine aw.aI ?_
 simp -implicitDefEqProofs only[↓reduceIte,go_sem,Nat.reduceLT,e]
theorem dT(l:List aq)(k:Int)(nn:Bool)(H:aa)(hl:l.length≤9223372036854775807):ag Tryz.prog 96 [.d (.list nn (l.map aq.enc)),iA k] H (.ok (iA (aS l k))) H:=by
 have hP:aS l k=if !bJ k then 1 else if 4096<l.length then 2 else if l.any (fun v=> !decide (v.kind=k))then 7 else if l.any (fun v=> !cA v)then 1 else 0:=rfl
 refine ag.aj (hint:=(fun _=>false)) Tryz.func96 (by kernel_rfl) rfl [4] (by kernel_rfl) (by decide) (by simp[Tryz.ntmps96]) ?_
 rw[Tryz.ntmps96]
 simp -implicitDefEqProofs only[↓reduceIte,go_sem,Nat.reduceLT,Nat.reduceEqDiff]
 refine ae.ok (c7 k _) ?_
 cases hk:bJ k with
 |false=>
  rw[hk]at hP
  simp -implicitDefEqProofs only[↓reduceIte,go_sem,Nat.reduceLT]
  refine aw.aI ?_
  simp -implicitDefEqProofs only[↓reduceIte,go_sem,Nat.reduceLT,hP,Bool.not_false]
 |true=>
 rw[hk]at hP
 simp only[Bool.not_true,Bool.false_eq_true,if_false]at hP
 by_cases h1:4096<l.length
 ·rw[if_pos h1]at hP
  simp -implicitDefEqProofs only[↓reduceIte,go_sem,Nat.reduceLT,reduceCtorEq,List.length_map,show(4096<(l.length:Int))=True from eq_true (by omega)]
  refine aw.aI ?_
  simp -implicitDefEqProofs only[↓reduceIte,go_sem,Nat.reduceLT,hP]
 rw[if_neg h1]at hP
 simp -implicitDefEqProofs only[↓reduceIte,go_sem,Nat.reduceLT,reduceCtorEq,List.length_map,show(4096<(l.length:Int))=False from eq_false (by omega)]
 refine aP (fun i s H'=>H'=H∧(∀j (hj:j<i) (hl:j<l.length),(!decide (l[j].kind=k))=false)∧s 0= .d (.list nn (l.map aq.enc))∧s 1=iA k∧s 5=iA i) l.length hl (ay.refl _ _) ?_ ?_ ?_
 ·refine⟨rfl,fun j hj=>by omega,?_⟩
  simp -implicitDefEqProofs only[↓reduceIte,go_sem,Nat.reduceLT,Nat.reduceEqDiff,reduceCtorEq]
 ·rintro i s H' hi hw ⟨rfl,hp,t0,t1,t5⟩
  have hx:=List.getElem?_eq_getElem hi
  have hit:(!decide (l[i].kind=k))=true→l.any (fun v=> !decide (v.kind=k))=true:=fun h=>CT (p:=fun v:aq=> !decide (v.kind=k)) hi h
  have hpp:(!decide (l[i].kind=k))=false→∀j (hj:j<i+1) (hl:j<l.length),(!decide (l[j].kind=k))=false:=fun h0 j hj hl'=>by
   rcases Nat.lt_or_ge j i with h|h
   ·exact hp j h hl'
   ·obtain rfl:j=i:=by omega
    exact h0
  generalize l[i]=x at hx hit hpp
  by_cases hc:x.kind=k
  ·simp -implicitDefEqProofs only[↓reduceIte,go_sem,Nat.reduceAdd,Nat.reduceLT,Nat.reduceLeDiff,Nat.reduceEqDiff,reduceCtorEq,t0,t1,t5,List.length_map,hi,hx,aq.enc,eq_true hc]
   refine c9.same ⟨rfl,hpp (by simp[hc]),?_⟩
   simp -implicitDefEqProofs only[↓reduceIte,go_sem,Nat.reduceLT,Nat.reduceEqDiff,reduceCtorEq,t0,t1,hw]
  ·rw[hit (by simp[hc]),if_pos rfl]at hP
   simp -implicitDefEqProofs only[↓reduceIte,go_sem,Nat.reduceAdd,Nat.reduceLT,Nat.reduceLeDiff,Nat.reduceEqDiff,reduceCtorEq,t0,t1,t5,List.length_map,hi,hx,aq.enc,hc]
   refine aw.aI ?_
   simp -implicitDefEqProofs only[↓reduceIte,go_sem,Nat.reduceLT,hP]
 ·rintro s H' ⟨rfl,hp,t0,t1,t5⟩
  rw[any_none (p:=fun v:aq=> !decide (v.kind=k)) (l:=l) fun i hi=>hp i hi hi]at hP
  simp only[Bool.false_eq_true,if_false]at hP
  simp -implicitDefEqProofs only[↓reduceIte,go_sem,Nat.reduceLT,Nat.reduceEqDiff,reduceCtorEq,t0,t5,List.length_map]
  refine aP (fun i s H2=>H2=H'∧(∀j (hj:j<i) (hl:j<l.length),(!cA l[j])=false)∧s 0= .d (.list nn (l.map aq.enc))∧s 6=iA i) l.length hl (ay.refl _ _) ?_ ?_ ?_
  ·refine⟨rfl,fun j hj=>by omega,?_⟩
   simp -implicitDefEqProofs only[↓reduceIte,go_sem,Nat.reduceLT,reduceCtorEq,t0]
  ·rintro i s H' hi hw ⟨rfl,hp,t0,t6⟩
   have hx:=List.getElem?_eq_getElem hi
   have hit:(!cA l[i])=true→l.any (fun v=> !cA v)=true:=fun h=>CT (p:=fun v:aq=> !cA v) hi h
   have hpp:(!cA l[i])=false→∀j (hj:j<i+1) (hl:j<l.length),(!cA l[j])=false:=fun h0 j hj hl'=>by
    rcases Nat.lt_or_ge j i with h|h
    ·exact hp j h hl'
    ·obtain rfl:j=i:=by omega
     exact h0
   generalize l[i]=x at hx hit hpp
   simp -implicitDefEqProofs only[↓reduceIte,go_sem,Nat.reduceAdd,Nat.reduceLT,Nat.reduceEqDiff,reduceCtorEq,t0,t6,List.length_map,hi,hx,aq.enc]
   refine ae.ok (kf x _) ?_
   cases hm:cA x with
   |true=>
    simp -implicitDefEqProofs only[↓reduceIte,go_sem,Nat.reduceLT,Nat.reduceEqDiff,t6]
    refine c9.same ⟨rfl,hpp (by rw[hm];rfl),?_⟩
    simp -implicitDefEqProofs only[↓reduceIte,go_sem,Nat.reduceLT,reduceCtorEq,t0,hw]
   |false=>
    rw[hit (by rw[hm];rfl),if_pos rfl]at hP
    simp -implicitDefEqProofs only[↓reduceIte,go_sem,Nat.reduceLT]
    refine aw.aI ?_
    simp -implicitDefEqProofs only[↓reduceIte,go_sem,Nat.reduceLT,hP]
  ·rintro s H' ⟨rfl,hp,t0,t6⟩
   rw[any_none (p:=fun v:aq=> !cA v) (l:=l) fun i hi=>hp i hi hi]at hP
   simp only[Bool.false_eq_true,if_false]at hP
   simp -implicitDefEqProofs only[↓reduceIte,go_sem,Nat.reduceLT,Nat.reduceEqDiff,reduceCtorEq,t0,t6,List.length_map]
   refine aw.aI ?_
   simp -implicitDefEqProofs only[↓reduceIte,go_sem,Nat.reduceLT,hP]
theorem ye(k:Nat)(hk:k<18446744073709551616)(H:aa):ag Tryz.prog 129 [du k] H (.ok (du (ea k))) H:=by
 unfold ea
 refine ag.aj (hint:=(fun _=>false)) Tryz.func129 (by kernel_rfl) rfl [2] (by kernel_rfl) (by decide) (by simp[Tryz.ntmps129]) ?_
 rw[Tryz.ntmps129]
 by_cases h:9223372036854775808≤k
 ·rw[if_pos h]
  have e1:IntKind.u64.wrap ((k:Int)-9223372036854775808)=((k-9223372036854775808:Nat):Int):=by rw[cg _ (by omega) (by omega)];omega
  simp -implicitDefEqProofs only[↓reduceIte,go_sem,Nat.reduceLT,reduceCtorEq,show((9223372036854775808:Int)≤(k:Int))=True from eq_true (by omega),e1]
  refine ae.ok (iX _ (by omega) _) ?_
  simp -implicitDefEqProofs only[↓reduceIte,go_sem,Nat.reduceLT]
  refine aw.aI ?_
  simp -implicitDefEqProofs only[↓reduceIte,go_sem,Nat.reduceLT]
 ·rw[if_neg h]
  have e1:IntKind.u64.wrap (18446744073709551615-(k:Int))=((18446744073709551615-k:Nat):Int):=by rw[cg _ (by omega) (by omega)];omega
  simp -implicitDefEqProofs only[↓reduceIte,go_sem,Nat.reduceLT,reduceCtorEq,show((9223372036854775808:Int)≤(k:Int))=False from eq_false (by omega),e1]
  refine ae.ok (iX _ (by omega) _) ?_
  simp -implicitDefEqProofs only[↓reduceIte,go_sem,Nat.reduceLT]
  refine aw.aI ?_
  simp -implicitDefEqProofs only[↓reduceIte,go_sem,Nat.reduceLT]
theorem AW(s:ByteArray)(hs:s.size≤100000000000000)(H:aa):ag Tryz.prog 142 [sA s] H (.ok (.d (.list false (aD (kE s))))) H:=by
 refine ag.aj (hint:=(fun _=>false)) Tryz.func142 (by kernel_rfl) rfl [2] (by kernel_rfl) (by decide) (by simp[Tryz.ntmps142]) ?_
 rw[Tryz.ntmps142]
 simp -implicitDefEqProofs only[↓reduceIte,go_sem,Nat.reduceLT,reduceCtorEq,aK s.size (by omega)]
 refine ae.ok (gK s.size (by omega) _) ?_
 have hl:=bD 10 s.size (by omega)
 have hsl:=hH s
 simp -implicitDefEqProofs only[↓reduceIte,go_sem,Nat.reduceLT,Nat.reduceEqDiff,reduceCtorEq,rW,ai,aL,dh]
 refine⟨by omega,by omega,aw.ret ?_⟩
 simp -implicitDefEqProofs only[↓reduceIte,go_sem,Nat.reduceLT,kE,List.take_of_length_le (show(aD (bp s.size++fS s)).length≤(bp s.size).length+(fS s).length by rw[ai,List.length_append];omega)]
theorem qC(b:List Nat)(most:Nat):ck b most=if(aQ b).2.2≠0 then([],[],(aQ b).2.2)else if most<(aQ b).1 then([],[],2)else if b.length-(aQ b).2.1<(aQ b).1 then([],[],3)else((b.drop (aQ b).2.1).take (aQ b).1,(b.drop (aQ b).2.1).drop (aQ b).1,0):=by
 obtain⟨j,hs⟩:=jS 10 0 b
 unfold ck aQ
 rcases hn:dV 10 0 b with⟨_|n,r⟩
 ·rename_i e
  have:=oH 10 0 b r e hn
  simp only
  rw[if_pos this]
 ·rw[hn]at hs
  simp only at hs⊢
  have hr:b.drop (b.length-r.length)=r:=by
   rw[hs,List.length_drop]
   rcases Nat.lt_or_ge b.length j with h|h
   ·rw[List.drop_eq_nil_of_le (by omega),List.drop_eq_nil_of_le (by omega)]
   ·congr 1;omega
  have hl:b.length-(b.length-r.length)=r.length:=by rw[hs,List.length_drop];omega
  rw[if_neg (show ¬((0:Int)≠0) by simp),hr,hl]
theorem xe(b:List Nat)(most:Nat)(hmo:most≤1000000)(hl:b.length≤140737488351232)(hb:∀c∈b,c<256)(H:aa):
  ag Tryz.prog 130 [.d (.list false (aD b)),iA most] H (.ok (.bz [sA (lL (ck b most).1),.d (.list false (aD (ck b most).2.1)),iA (ck b most).2.2])) H:=by
 rw[qC]
 have hgd:=fun H=>fx b false hl hb H
 have hgl:=eO b
 have hglt:=fh b
 generalize aQ b=g at*
 obtain⟨n,k,e⟩:=g
 simp only at hgl hglt hgd⊢
 have wm:IntKind.u64.wrap (most:Int)=(most:Int):=aK _ (by omega)
 have c0:((most:Int)<0)=False:=eq_false (by omega)
 by_cases he:e=0
 ·subst he
  rw[if_neg (by simp)]
  by_cases h1:most<n
  ·rw[if_pos h1]
   refine ag.bE (cs:=[sA ⟨#[]⟩,.d (.v (.slice none 0 0)),iA 2]) ?_ (.cons (.refl _) (.cons .nil (.cons (.refl _) .nil)))
   refine ag.aj (hint:=(fun _=>false)) Tryz.func130 (by kernel_rfl) rfl [4,5,6] (by kernel_rfl) (by decide) (by simp[Tryz.ntmps130]) ?_
   rw[Tryz.ntmps130]
   simp -implicitDefEqProofs only[↓reduceIte,go_sem,Nat.reduceLT,reduceCtorEq]
   refine ae.ok (hgd _) ?_
   simp -implicitDefEqProofs only[↓reduceIte,go_sem,Nat.reduceLT,Nat.reduceEqDiff,reduceCtorEq,c0,wm,show((most:Int)<(n:Int))=True from eq_true (by omega)]
   refine aw.aI ?_
   simp -implicitDefEqProofs only[↓reduceIte,go_sem,Nat.reduceLT,Nat.reduceEqDiff]
  rw[if_neg h1]
  have wr:IntKind.u64.wrap (IntKind.i64.wrap ((b.length:Int)-(k:Int)))=((b.length-k:Nat):Int):=by
   rw[wrap64_in _ (by omega) (by omega),cg _ (by omega) (by omega)];omega
  by_cases h2:b.length-k<n
  ·rw[if_pos h2]
   refine ag.bE (cs:=[sA ⟨#[]⟩,.d (.v (.slice none 0 0)),iA 3]) ?_ (.cons (.refl _) (.cons .nil (.cons (.refl _) .nil)))
   refine ag.aj (hint:=(fun _=>false)) Tryz.func130 (by kernel_rfl) rfl [4,5,6] (by kernel_rfl) (by decide) (by simp[Tryz.ntmps130]) ?_
   rw[Tryz.ntmps130]
   simp -implicitDefEqProofs only[↓reduceIte,go_sem,Nat.reduceLT,reduceCtorEq]
   refine ae.ok (hgd _) ?_
   simp -implicitDefEqProofs only[↓reduceIte,go_sem,Nat.reduceLT,Nat.reduceEqDiff,reduceCtorEq,c0,wm,show((most:Int)<(n:Int))=False from eq_false (by omega),ai,wr,show(((b.length-k:Nat):Int)<(n:Int))=True from eq_true (by omega)]
   refine aw.aI ?_
   simp -implicitDefEqProofs only[↓reduceIte,go_sem,Nat.reduceLT,Nat.reduceEqDiff]
  rw[if_neg h2]
  have wn:IntKind.i64.wrap (n:Int)=(n:Int):=wrap64_in _ (by omega) (by omega)
  obtain⟨p,hp⟩:∃p,p=k+n:=⟨_,rfl⟩
  have wk:IntKind.i64.wrap ((k:Int)+(n:Int))=(p:Int):=by rw[wrap64_in _ (by omega) (by omega)];omega
  have hkp:((k:Int)≤(p:Int))=True:=eq_true (by omega)
  have hk0:((0:Int)≤(k:Int))=True:=eq_true (by omega)
  have hp0:((0:Int)≤(p:Int))=True:=eq_true (by omega)
  have e1:((aD b).take p).drop k=aD ((b.drop k).take n):=by rw[nW,cS,hp,List.drop_take,show k+n-k=n by omega]
  have e2:((aD b).take b.length).drop p=aD ((b.drop k).drop n):=by rw[nW,cS,List.drop_drop,List.take_of_length_le (Nat.le_refl _),hp]
  refine ag.aj (hint:=(fun _=>false)) Tryz.func130 (by kernel_rfl) rfl [4,5,6] (by kernel_rfl) (by decide) (by simp[Tryz.ntmps130]) ?_
  rw[Tryz.ntmps130]
  simp -implicitDefEqProofs only[↓reduceIte,go_sem,Nat.reduceLT,reduceCtorEq]
  refine ae.ok (hgd _) ?_
  simp -implicitDefEqProofs only[↓reduceIte,go_sem,Nat.reduceLT,Nat.reduceEqDiff,reduceCtorEq,c0,wm,show((most:Int)<(n:Int))=False from eq_false (by omega),ai,wr,show(((b.length-k:Nat):Int)<(n:Int))=False from eq_false (by omega)]
  refine aO K.mixed (by kernel_rfl) ?_
  simp -implicitDefEqProofs only[↓reduceIte,go_sem,Nat.reduceLT,Nat.reduceEqDiff,reduceCtorEq,ai,aL,wn,wk,hkp,hk0,hp0,e1,e2,dq]
  refine⟨by omega,by omega,aw.aI ?_⟩
  simp -implicitDefEqProofs only[↓reduceIte,go_sem,Nat.reduceLT,Nat.reduceEqDiff,iv]
 ·rw[if_pos he]
  refine ag.bE (cs:=[sA ⟨#[]⟩,.d (.v (.slice none 0 0)),iA e]) ?_ (.cons (.refl _) (.cons .nil (.cons (.refl _) .nil)))
  refine ag.aj (hint:=(fun _=>false)) Tryz.func130 (by kernel_rfl) rfl [4,5,6] (by kernel_rfl) (by decide) (by simp[Tryz.ntmps130]) ?_
  rw[Tryz.ntmps130]
  simp -implicitDefEqProofs only[↓reduceIte,go_sem,Nat.reduceLT,reduceCtorEq]
  refine ae.ok (hgd _) ?_
  simp -implicitDefEqProofs only[↓reduceIte,go_sem,Nat.reduceLT,Nat.reduceEqDiff,he]
  refine aw.aI ?_
  simp -implicitDefEqProofs only[↓reduceIte,go_sem,Nat.reduceLT,Nat.reduceEqDiff]
theorem HD(n k:Nat)(h:k<8):(nt n).drop (7-k)=n/256^k%256::(nt n).drop (8-k):=by
 have hl:7-k<(nt n).length:=by rw[fZ];omega
 rw[List.drop_eq_getElem_cons hl,show 7-k+1=8-k by omega]
 simp[nt,show 7-(7-k)=k by omega]
def lD(n k:Nat):List Nat:=List.replicate (8-k) 0++(nt n).drop (8-k)
theorem E5(n k:Nat)(h:k<8):(aD (lD n k)).set (7-k) [.v (.int .u8 ((n/256^k%256:Nat):Int))]=aD (lD n (k+1)):=by
 unfold lD aD
 rw[show 8-(k+1)=7-k by omega,HD n k h,show 8-k=(7-k)+1 by omega,List.replicate_succ',List.append_assoc,List.map_append,List.map_append,List.set_append_right _ _ (by simp)]
 simp
theorem FQ(n k:Nat)(h:k≤8):(lD n k).length=8:=by unfold lD;rw[List.length_append,List.length_replicate,List.length_drop,fZ];omega
theorem fB(v:aq)(hi:-9223372036854775808≤v.i∧v.i≤9223372036854775807)(hm:cA v=true)(H:aa):
  ag Tryz.prog 100 [v.av] H (.ok (.bz [.d (.list false (aD (cW v))),iA 0])) H:=by
 by_cases h1:v.kind=1
 ·have e:cW v=bp (fj v.i):=by unfold cW;rw[if_pos h1]
  rw[e]
  refine ag.aj (hint:=(fun _=>false)) Tryz.func100 (by kernel_rfl) rfl [2,3] (by kernel_rfl) (by decide) (by simp[Tryz.ntmps100]) ?_
  rw[Tryz.ntmps100]
  simp -implicitDefEqProofs only[↓reduceIte,go_sem,ah,Nat.reduceAdd,Nat.reduceLT,Nat.reduceEqDiff]
  refine ae.ok (kf v _) ?_
  simp -implicitDefEqProofs only[↓reduceIte,go_sem,ah,Nat.reduceAdd,Nat.reduceLT,Nat.reduceLeDiff,Nat.reduceEqDiff,hm,eq_true h1]
  refine ae.ok (pj v.i hi.1 hi.2 _) ?_
  simp -implicitDefEqProofs only[↓reduceIte,go_sem,Nat.reduceLT]
  refine ae.ok (mI _ (gM hi.1 hi.2) _) ?_
  simp -implicitDefEqProofs only[↓reduceIte,go_sem,Nat.reduceLT]
  refine aw.ret ?_
  simp -implicitDefEqProofs only[↓reduceIte,go_sem,Nat.reduceLT,Nat.reduceEqDiff]
 by_cases h2:v.kind=2
 ·have e:cW v=nt (dR (iW v.i)):=by unfold cW;rw[if_neg h1,if_pos h2]
  rw[e]
  have hkl:=xt _ (im v.i)
  have hwu:=jE v.i
  have hkd:=fun H=>kS (iW v.i) (im v.i) H
  have h0:aD (lD (dR (iW v.i)) 0)=List.replicate 8 [.v (.int .u8 0)]:=by
   unfold lD
   rw[List.drop_eq_nil_of_le (by rw[fZ];exact Nat.le_refl _)]
   rfl
  have h8:aD (lD (dR (iW v.i)) 8)=aD (nt (dR (iW v.i))):=by unfold lD;simp
  have hset:=E5 (dR (iW v.i))
  have hhl:=FQ (dR (iW v.i))
  have hbl:=fZ (dR (iW v.i))
  generalize hkk:dR (iW v.i)=q at*
  generalize nt q=B at*
  refine ag.aj (hint:=(fun t=>t==24)) Tryz.func100 (by kernel_rfl) rfl [2,3] (by kernel_rfl) (by decide) (by simp[Tryz.ntmps100]) ?_
  rw[Tryz.ntmps100]
  simp -implicitDefEqProofs only[↓reduceIte,go_sem,ah,Nat.reduceAdd,Nat.reduceLT,Nat.reduceEqDiff,Nat.reduceBEq]
  refine ae.ok (kf v _) ?_
  simp -implicitDefEqProofs only[↓reduceIte,go_sem,ah,Nat.reduceAdd,Nat.reduceLT,Nat.reduceLeDiff,Nat.reduceEqDiff,Nat.reduceBEq,hm,eq_false h1,eq_true h2,hwu]
  refine ae.ok (hkd _) ?_
  simp -implicitDefEqProofs only[↓reduceIte,go_sem,Nat.reduceAdd,Nat.reduceLT,Nat.reduceBEq,Int.reduceLE,Int.reduceMul,Int.reduceToNat]
  have hp0:q/256^0=q:=by simp
  refine aP (fun k s H'=>H'=H++[.box 25 3 0 1 [iA v.kind,iA v.i,sA v.s],.arr 5 1 0 (aD (lD q k))]∧s 4=du (q/256^k)∧s 5= .sl (H.length+1) 0 0 8∧s 6=iA (7-k)) 8 (by omega) (ay.refl _ _) ?_ ?_ ?_
  ·refine⟨by rw[h0],?_⟩
   simp -implicitDefEqProofs only[↓reduceIte,go_sem,Nat.reduceLT,Nat.reduceEqDiff,Int.reduceSub,hp0]
  ·rintro k s H' hk hw ⟨rfl,t4,t5,t6⟩
   obtain⟨j,hj⟩:∃j,j=7-k:=⟨_,rfl⟩
   rw[show(7:Int)-(k:Int)=(j:Int) by omega]at t6
   have hx:=hset k hk
   have hl:=hhl k (by omega)
   rw[←hj]at hx
   have hd:q/256^(k+1)=q/256^k/256:=by rw[Nat.div_div_eq_div_mul,Nat.pow_succ]
   have hpl:q/256^k<18446744073709551616:=Nat.lt_of_le_of_lt (Nat.div_le_self _ _) hkl
   obtain⟨c0,hc0⟩:∃c0:Nat,(aD (lD q k))[j]?=some [.v (.int .u8 (c0:Int))]:=⟨(lD q k)[j]'(by omega),by unfold aD;rw[List.getElem?_map,List.getElem?_eq_getElem (by omega)];rfl⟩
   rw[hd]
   generalize q/256^k=p at*
   have m1:Int.tmod (p:Int) 256=((p%256:Nat):Int):=Gt p 256
   have m2:Int.tdiv (p:Int) 256=((p/256:Nat):Int):=Gn p 256
   have w1:IntKind.u64.wrap ((p%256:Nat):Int)=((p%256:Nat):Int):=aK _ (by omega)
   have w2:IntKind.u8.wrap ((p%256:Nat):Int)=((p%256:Nat):Int):=by simp only[IntKind.wrap,IntKind.signed,IntKind.bits];simp
   have w3:IntKind.u64.wrap ((p/256:Nat):Int)=((p/256:Nat):Int):=aK _ (by omega)
   have w4:IntKind.i64.wrap ((j:Int)-1)=7-((k+1:Nat):Int):=by rw[wrap64_in _ (by omega) (by omega)];omega
   have c1:((0:Int)≤(j:Int))=True:=eq_true (by omega)
   have c2:((j:Int)<8)=True:=eq_true (by omega)
   generalize ((p%256:Nat):Int)=y at*
   generalize hz:((p/256:Nat):Int)=z at*
   generalize (7-((k+1:Nat):Int))=u at*
   simp -implicitDefEqProofs only[↓reduceIte,go_sem,au,Nat.reduceAdd,Nat.reduceLT,Nat.reduceEqDiff,Nat.reduceBEq,Int.reduceEq,t4,t5,t6,c1,c2,m1,m2,w2,w3,w4,hc0,hx]
   refine c9.same ⟨rfl,?_⟩
   simp -implicitDefEqProofs only[↓reduceIte,go_sem,Nat.reduceLT,Nat.reduceEqDiff,t5,du,hz]
  ·rintro s H' ⟨rfl,t4,t5,t6⟩
   simp -implicitDefEqProofs only[↓reduceIte,go_sem,Nat.reduceAdd,Nat.reduceLT,Nat.reduceEqDiff,Nat.reduceBEq,Int.reduceLE,Int.reduceSub,Int.reduceNeg,t5,t6]
   refine aw.ret ?_
   simp -implicitDefEqProofs only[↓reduceIte,go_sem,Nat.reduceLT,Nat.reduceEqDiff,Int.reduceNeg,h8,List.take_of_length_le (show(aD B).length≤8 by rw[ai];omega)]
 have hb:cA v=true→v.kind=3∨v.kind=0:=fun h=>by
  unfold cA at h
  rw[if_neg h2,if_neg h1]at h
  by_cases h3:v.kind=3
  ·exact .inl h3
  ·rw[if_neg h3]at h
   by_cases h0:v.kind=0
   ·exact .inr h0
   ·rw[if_neg h0]at h;cases h
 by_cases h3:v.kind=3
 ·have e:cW v=kE v.s:=by unfold cW;rw[if_neg h1,if_neg h2,if_pos h3]
  rw[e]
  have hsz:=mi hm h3
  refine ag.aj (hint:=(fun _=>false)) Tryz.func100 (by kernel_rfl) rfl [2,3] (by kernel_rfl) (by decide) (by simp[Tryz.ntmps100]) ?_
  rw[Tryz.ntmps100]
  simp -implicitDefEqProofs only[↓reduceIte,go_sem,ah,Nat.reduceAdd,Nat.reduceLT,Nat.reduceEqDiff]
  refine ae.ok (kf v _) ?_
  simp -implicitDefEqProofs only[↓reduceIte,go_sem,ah,Nat.reduceAdd,Nat.reduceLT,Nat.reduceLeDiff,Nat.reduceEqDiff,hm,eq_false h1,eq_false h2,eq_true h3]
  refine ae.ok (AW v.s (by omega) _) ?_
  simp -implicitDefEqProofs only[↓reduceIte,go_sem,Nat.reduceLT]
  refine aw.ret ?_
  simp -implicitDefEqProofs only[↓reduceIte,go_sem,Nat.reduceLT,Nat.reduceEqDiff]
 ·have e:cW v=[]:=by unfold cW;rw[if_neg h1,if_neg h2,if_neg h3]
  rw[e]
  refine ag.bE (cs:=[.d (.v (.slice none 0 0)),iA 0]) ?_ (.cons .nil (.cons (.refl _) .nil))
  refine ag.aj (hint:=(fun _=>false)) Tryz.func100 (by kernel_rfl) rfl [2,3] (by kernel_rfl) (by decide) (by simp[Tryz.ntmps100]) ?_
  rw[Tryz.ntmps100]
  simp -implicitDefEqProofs only[↓reduceIte,go_sem,ah,Nat.reduceAdd,Nat.reduceLT,Nat.reduceEqDiff]
  refine ae.ok (kf v _) ?_
  simp -implicitDefEqProofs only[↓reduceIte,go_sem,ah,Nat.reduceAdd,Nat.reduceLT,Nat.reduceLeDiff,Nat.reduceEqDiff,hm,eq_false h1,eq_false h2,eq_false h3]
  refine aw.ret ?_
  simp -implicitDefEqProofs only[↓reduceIte,go_sem,Nat.reduceLT,Nat.reduceEqDiff]
theorem mz(b:List Nat)(k:Int)(hl:b.length≤140737488351232)(hb:∀c∈b,c<256)(H:aa):
  ag Tryz.prog 91 [.d (.list false (aD b)),iA k] H (.ok (.bz [(ej b k).1.av,.d (.list false (aD (ej b k).2.1)),iA (ej b k).2.2])) H:=by
 have hO:ej b k=if k=0 then(zV,b,0)else if k=1 then(if(aQ b).2.2=0 then(cG (dA (aQ b).1),b.drop (aQ b).2.1,0)else(zV,[],(aQ b).2.2))else if k=2 then hZ b else if k=3 then(if(ck b 1024).2.2=0 then(⟨3,0,lL (ck b 1024).1⟩,(ck b 1024).2.1,0)else(zV,[],(ck b 1024).2.2))else(zV,[],1):=rfl
 by_cases h0:k=0
 ·rw[hO,if_pos h0]
  subst h0
  refine ag.bj (hint:=fun _=>false) Tryz.func91 (by kernel_rfl) rfl [.cell 4 25,.tmp 5,.tmp 6] (by kernel_rfl) (by simp[Tryz.ntmps91]) ?_
  rw[Tryz.ntmps91]
  simp -implicitDefEqProofs only[↓reduceIte,go_sem,au,Nat.reduceAdd,Nat.reduceLT,Nat.reduceEqDiff,reduceCtorEq]
  refine aZ.ret ?_
  simp -implicitDefEqProofs only[↓reduceIte,go_sem,ah,Nat.reduceAdd,Nat.reduceLT,Nat.reduceLeDiff,Nat.reduceEqDiff,aJ,a8,zV,cP]
 rw[if_neg h0]at hO
 by_cases h1:k=1
 ·rw[if_pos h1]at hO
  subst h1
  have hgl:=eO b
  have hglt:=fh b
  have hgd:=fun H=>fx b false (by omega) hb H
  generalize aQ b=g at*
  obtain⟨n,j,e⟩:=g
  simp only at hgl hglt hO hgd
  by_cases he:e=0
  ·rw[if_pos he]at hO
   rw[hO]
   subst he
   refine ag.bj (hint:=fun _=>false) Tryz.func91 (by kernel_rfl) rfl [.cell 4 25,.tmp 5,.tmp 6] (by kernel_rfl) (by simp[Tryz.ntmps91]) ?_
   rw[Tryz.ntmps91]
   have hbt:(aD b).take b.length=aD b:=List.take_of_length_le (by rw[ai];exact Nat.le_refl _)
   have hdl:(b.drop j).length=b.length-j:=List.length_drop
   simp -implicitDefEqProofs only[↓reduceIte,go_sem,Nat.reduceLT,Nat.reduceEqDiff,Int.reduceEq,reduceCtorEq]
   refine ae.ok (hgd _) ?_
   simp -implicitDefEqProofs only[↓reduceIte,go_sem,Nat.reduceLT,Nat.reduceEqDiff]
   refine dK [some false,some false,some false,some false,some false,none,some true] 6 H K.mixed (by kernel_rfl) (by kernel_rfl) (by kernel_rfl) (Ext.app H _) ?_
   simp -implicitDefEqProofs only[↓reduceIte,go_sem,Nat.reduceLT,Nat.reduceEqDiff]
   refine ae.ok (pf n hglt _) ?_
   simp -implicitDefEqProofs only[↓reduceIte,go_sem,au,Nat.reduceAdd,Nat.reduceLT,Nat.reduceLeDiff,Nat.reduceEqDiff,reduceCtorEq,aL,ai,hbt,cS,hgl,show((0:Int)≤(j:Int))=True from eq_true (by omega)]
   refine aZ.ret ?_
   simp -implicitDefEqProofs only[↓reduceIte,go_sem,ah,Nat.reduceAdd,Nat.reduceLT,Nat.reduceLeDiff,Nat.reduceEqDiff,aJ,a8,cG,cP]
  ·rw[if_neg he]at hO
   rw[hO]
   refine ag.bE (cs:=[zV.av,.d (.v (.slice none 0 0)),iA e]) ?_ (.cons (.refl _) (.cons .nil (.cons (.refl _) .nil)))
   refine ag.bj (hint:=fun _=>false) Tryz.func91 (by kernel_rfl) rfl [.cell 4 25,.tmp 5,.tmp 6] (by kernel_rfl) (by simp[Tryz.ntmps91]) ?_
   rw[Tryz.ntmps91]
   simp -implicitDefEqProofs only[↓reduceIte,go_sem,Nat.reduceLT,Nat.reduceEqDiff,Int.reduceEq,reduceCtorEq]
   refine ae.ok (hgd _) ?_
   simp -implicitDefEqProofs only[↓reduceIte,go_sem,au,Nat.reduceAdd,Nat.reduceLT,Nat.reduceEqDiff,he]
   refine aZ.ret ?_
   simp -implicitDefEqProofs only[↓reduceIte,go_sem,ah,Nat.reduceAdd,Nat.reduceLT,Nat.reduceLeDiff,Nat.reduceEqDiff,aJ,a8,zV,cP]
 rw[if_neg h1]at hO
 by_cases h2:k=2
 ·rw[if_pos h2]at hO
  subst h2
  have hF:hZ b=if b.length<8 then(zV,[],3)else if dR (ea (gR (b.take 8)))=gR (b.take 8)then(⟨2,CR (ea (gR (b.take 8))),cP⟩,b.drop 8,0)else(zV,[],4):=rfl
  rw[hO]
  by_cases h8:b.length<8
  ·rw[hF,if_pos h8]
   refine ag.bE (cs:=[zV.av,.d (.v (.slice none 0 0)),iA 3]) ?_ (.cons (.refl _) (.cons .nil (.cons (.refl _) .nil)))
   refine ag.bj (hint:=fun _=>false) Tryz.func91 (by kernel_rfl) rfl [.cell 4 25,.tmp 5,.tmp 6] (by kernel_rfl) (by simp[Tryz.ntmps91]) ?_
   rw[Tryz.ntmps91]
   simp -implicitDefEqProofs only[↓reduceIte,go_sem,au,Nat.reduceAdd,Nat.reduceLT,Nat.reduceEqDiff,Int.reduceEq,reduceCtorEq,ai,show((b.length:Int)<8)=True from eq_true (by omega)]
   refine aZ.ret ?_
   simp -implicitDefEqProofs only[↓reduceIte,go_sem,ah,Nat.reduceAdd,Nat.reduceLT,Nat.reduceLeDiff,Nat.reduceEqDiff,aJ,a8,zV,cP]
  rw[if_neg h8]at hF
  have h8l:(b.take 8).length=8:=by rw[List.length_take];omega
  have hkl:=p6 8 (b.take 8) h8l fun c hc=>hb c (List.mem_of_mem_take hc)
  have hkl':gR (b.take 8)<18446744073709551616:=hkl
  have hub:=pP hkl'
  have hfold:∀k,k<8→∃c,(aD b)[k]?=some [.v (.int .u8 (c:Int))]∧c<256∧gR (b.take (k+1))=gR (b.take k)* 256+c∧gR (b.take k)* 256+c<18446744073709551616:=fun k hk=>by
   have hk':k<b.length:=by omega
   refine⟨b[k],by unfold aD;rw[List.getElem?_map,List.getElem?_eq_getElem hk'];rfl,hb _ (List.getElem_mem hk'),?_,?_⟩
   ·rw[List.take_succ_eq_append_getElem hk',iG]
   ·rw[←iG,←List.take_succ_eq_append_getElem hk']
    have:=p6 (k+1) (b.take (k+1)) (by rw[List.length_take];omega) fun c hc=>hb c (List.mem_of_mem_take hc)
    have h2:256^(k+1)≤256^8:=Nat.pow_le_pow_right (by decide) (by omega)
    omega
  have hd8:(aD b).drop 8=aD (b.drop 8):=cS b 8
  have hdl:(b.drop 8).length=b.length-8:=List.length_drop
  have hbtl:(aD b).take b.length=aD b:=List.take_of_length_le (by rw[ai];exact Nat.le_refl _)
  rw[hF]
  have hkd:=fun H=>ye _ hkl' H
  have hyd:=fun H=>kS _ hub H
  by_cases hk:dR (ea (gR (b.take 8)))=gR (b.take 8)
  ·rw[if_pos hk]
   refine ag.bj (hint:=fun _=>false) Tryz.func91 (by kernel_rfl) rfl [.cell 4 25,.tmp 5,.tmp 6] (by kernel_rfl) (by simp[Tryz.ntmps91]) ?_
   rw[Tryz.ntmps91]
   simp -implicitDefEqProofs only[↓reduceIte,go_sem,Nat.reduceLT,Nat.reduceEqDiff,Int.reduceEq,reduceCtorEq,ai,show((b.length:Int)<8)=False from eq_false (by omega)]
   refine aP (fun k s H'=>H'=H++[.box 25 3 0 1 [iA 0,iA 0,sA ⟨#[]⟩]]∧s 0= .d (.list false (aD b))∧s 4= .ptr H.length 0 0 0∧s 10=du (gR (b.take k))∧s 11=iA k) 8 (by omega) (ay.refl _ _) ?_ ?_ ?_
   ·refine⟨rfl,?_⟩
    simp -implicitDefEqProofs only[↓reduceIte,go_sem,Nat.reduceLT,Nat.reduceEqDiff,reduceCtorEq]
    rfl
   ·rintro k s H' hk8 hw ⟨rfl,t0,t4,t10,t11⟩
    have hk8':((k:Int)<8)=True:=eq_true (by omega)
    obtain⟨c,g1,g2,g3,g4⟩:=hfold k hk8
    have wc:IntKind.u64.wrap (c:Int)=(c:Int):=aK _ (by omega)
    have wm:IntKind.u64.wrap ((gR (b.take k):Int)* 256)=((gR (b.take k)* 256:Nat):Int):=by rw[cg _ (by omega) (by omega)];omega
    have wa:IntKind.u64.wrap (((gR (b.take k)* 256:Nat):Int)+(c:Int))=((gR (b.take k)* 256+c:Nat):Int):=by rw[cg _ (by omega) (by omega)];omega
    rw[g3]
    generalize gR (b.take k)=m at*
    generalize hy:((m* 256:Nat):Int)=y at*
    simp -implicitDefEqProofs only[↓reduceIte,go_sem,Nat.reduceLT,Nat.reduceEqDiff,reduceCtorEq,t0,t10,t11,hk8',g1,wc,wm,wa]
    refine c9.same ⟨rfl,?_⟩
    simp -implicitDefEqProofs only[↓reduceIte,go_sem,Nat.reduceLT,Nat.reduceEqDiff,reduceCtorEq,t0,t4,hw,du]
   ·rintro s H' ⟨rfl,t0,t4,t10,t11⟩
    simp -implicitDefEqProofs only[↓reduceIte,go_sem,Nat.reduceLT,Nat.reduceEqDiff,Int.reduceLT,t10,t11]
    refine ae.ok (hkd _) ?_
    simp -implicitDefEqProofs only[↓reduceIte,go_sem,Nat.reduceLT]
    refine ae.ok (hyd _) ?_
    simp -implicitDefEqProofs only[↓reduceIte,go_sem,Nat.reduceLT,Nat.reduceEqDiff,t10,eq_true (congrArg (fun n:Nat=>(n:Int)) hk)]
    refine dK [some false,some false,some false,some false,none,some true] 5 H K.mixed (by kernel_rfl) (by kernel_rfl) (by kernel_rfl) (Ext.app H _) ?_
    simp -implicitDefEqProofs only[↓reduceIte,go_sem,au,Nat.reduceAdd,Nat.reduceLT,Nat.reduceLeDiff,Nat.reduceEqDiff,Int.reduceLE,Int.reduceToNat,reduceCtorEq,t0,t4,ai,aL,hbtl,hd8,show((8:Int)≤(b.length:Int))=True from eq_true (by omega)]
    refine aZ.ret ?_
    simp -implicitDefEqProofs only[↓reduceIte,go_sem,ah,Nat.reduceAdd,Nat.reduceLT,Nat.reduceLeDiff,Nat.reduceEqDiff,aJ,a8,t4,CR,cP]
  ·rw[if_neg hk]
   refine ag.bE (cs:=[zV.av,.d (.v (.slice none 0 0)),iA 4]) ?_ (.cons (.refl _) (.cons .nil (.cons (.refl _) .nil)))
   refine ag.bj (hint:=fun _=>false) Tryz.func91 (by kernel_rfl) rfl [.cell 4 25,.tmp 5,.tmp 6] (by kernel_rfl) (by simp[Tryz.ntmps91]) ?_
   rw[Tryz.ntmps91]
   simp -implicitDefEqProofs only[↓reduceIte,go_sem,Nat.reduceLT,Nat.reduceEqDiff,Int.reduceEq,reduceCtorEq,ai,show((b.length:Int)<8)=False from eq_false (by omega)]
   refine aP (fun k s H'=>H'=H++[.box 25 3 0 1 [iA 0,iA 0,sA ⟨#[]⟩]]∧s 0= .d (.list false (aD b))∧s 4= .ptr H.length 0 0 0∧s 10=du (gR (b.take k))∧s 11=iA k) 8 (by omega) (ay.refl _ _) ?_ ?_ ?_
   ·refine⟨rfl,?_⟩
    simp -implicitDefEqProofs only[↓reduceIte,go_sem,Nat.reduceLT,Nat.reduceEqDiff,reduceCtorEq]
    rfl
   ·rintro k s H' hk8 hw ⟨rfl,t0,t4,t10,t11⟩
    have hk8':((k:Int)<8)=True:=eq_true (by omega)
    obtain⟨c,g1,g2,g3,g4⟩:=hfold k hk8
    have wc:IntKind.u64.wrap (c:Int)=(c:Int):=aK _ (by omega)
    have wm:IntKind.u64.wrap ((gR (b.take k):Int)* 256)=((gR (b.take k)* 256:Nat):Int):=by rw[cg _ (by omega) (by omega)];omega
    have wa:IntKind.u64.wrap (((gR (b.take k)* 256:Nat):Int)+(c:Int))=((gR (b.take k)* 256+c:Nat):Int):=by rw[cg _ (by omega) (by omega)];omega
    rw[g3]
    generalize gR (b.take k)=m at*
    generalize hy:((m* 256:Nat):Int)=y at*
    simp -implicitDefEqProofs only[↓reduceIte,go_sem,Nat.reduceLT,Nat.reduceEqDiff,reduceCtorEq,t0,t10,t11,hk8',g1,wc,wm,wa]
    refine c9.same ⟨rfl,?_⟩
    simp -implicitDefEqProofs only[↓reduceIte,go_sem,Nat.reduceLT,Nat.reduceEqDiff,reduceCtorEq,t0,t4,hw,du]
   ·rintro s H' ⟨rfl,t0,t4,t10,t11⟩
    simp -implicitDefEqProofs only[↓reduceIte,go_sem,Nat.reduceLT,Nat.reduceEqDiff,Int.reduceLT,t10,t11]
    refine ae.ok (hkd _) ?_
    simp -implicitDefEqProofs only[↓reduceIte,go_sem,Nat.reduceLT]
    refine ae.ok (hyd _) ?_
    simp -implicitDefEqProofs only[↓reduceIte,go_sem,au,Nat.reduceAdd,Nat.reduceLT,Nat.reduceEqDiff,t4,t10,show(((dR (ea (gR (b.take 8))):Nat):Int)=((gR (b.take 8):Nat):Int))=False from eq_false (by omega)]
    refine aZ.ret ?_
    simp -implicitDefEqProofs only[↓reduceIte,go_sem,ah,Nat.reduceAdd,Nat.reduceLT,Nat.reduceLeDiff,Nat.reduceEqDiff,aJ,a8,t4,zV,cP]
 rw[if_neg h2]at hO
 by_cases h3:k=3
 ·rw[if_pos h3]at hO
  subst h3
  have hf:=fun H=>xe b 1024 (by decide) hl hb H
  generalize ck b 1024=t at*
  obtain⟨v,r,e⟩:=t
  simp only at hO hf
  by_cases he:e=0
  ·rw[if_pos he]at hO
   rw[hO]
   subst he
   refine ag.bj (hint:=fun _=>false) Tryz.func91 (by kernel_rfl) rfl [.cell 4 25,.tmp 5,.tmp 6] (by kernel_rfl) (by simp[Tryz.ntmps91]) ?_
   rw[Tryz.ntmps91]
   simp -implicitDefEqProofs only[↓reduceIte,go_sem,Nat.reduceLT,Nat.reduceEqDiff,Int.reduceEq,reduceCtorEq]
   refine ae.ok (hf _) ?_
   simp -implicitDefEqProofs only[↓reduceIte,go_sem,au,Nat.reduceAdd,Nat.reduceLT,Nat.reduceLeDiff,Nat.reduceEqDiff]
   refine aZ.ret ?_
   simp -implicitDefEqProofs only[↓reduceIte,go_sem,ah,Nat.reduceAdd,Nat.reduceLT,Nat.reduceLeDiff,Nat.reduceEqDiff,aJ,a8]
  ·rw[if_neg he]at hO
   rw[hO]
   refine ag.bE (cs:=[zV.av,.d (.v (.slice none 0 0)),iA e]) ?_ (.cons (.refl _) (.cons .nil (.cons (.refl _) .nil)))
   refine ag.bj (hint:=fun _=>false) Tryz.func91 (by kernel_rfl) rfl [.cell 4 25,.tmp 5,.tmp 6] (by kernel_rfl) (by simp[Tryz.ntmps91]) ?_
   rw[Tryz.ntmps91]
   simp -implicitDefEqProofs only[↓reduceIte,go_sem,Nat.reduceLT,Nat.reduceEqDiff,Int.reduceEq,reduceCtorEq]
   refine ae.ok (hf _) ?_
   simp -implicitDefEqProofs only[↓reduceIte,go_sem,au,Nat.reduceAdd,Nat.reduceLT,Nat.reduceEqDiff,he]
   refine aZ.ret ?_
   simp -implicitDefEqProofs only[↓reduceIte,go_sem,ah,Nat.reduceAdd,Nat.reduceLT,Nat.reduceLeDiff,Nat.reduceEqDiff,aJ,a8,zV,cP]
 rw[if_neg h3]at hO
 rw[hO]
 refine ag.bE (cs:=[zV.av,.d (.v (.slice none 0 0)),iA 1]) ?_ (.cons (.refl _) (.cons .nil (.cons (.refl _) .nil)))
 refine ag.bj (hint:=fun _=>false) Tryz.func91 (by kernel_rfl) rfl [.cell 4 25,.tmp 5,.tmp 6] (by kernel_rfl) (by simp[Tryz.ntmps91]) ?_
 rw[Tryz.ntmps91]
 simp -implicitDefEqProofs only[↓reduceIte,go_sem,au,Nat.reduceAdd,Nat.reduceLT,Nat.reduceEqDiff,h0,h1,h2,h3]
 refine aZ.ret ?_
 simp -implicitDefEqProofs only[↓reduceIte,go_sem,ah,Nat.reduceAdd,Nat.reduceLT,Nat.reduceLeDiff,Nat.reduceEqDiff,aJ,a8,zV,cP]
def re{α:Type}(c:α→α→Int)(l:List α)(x:α):Prop:=(l.filter (St.eqv (iR c) x)).head?=some x
theorem fw{α:Type}{c:α→α→Int}(ht:kM c)(x y:α):St.eqv (iR c) x y=true↔c x y=0:=by
 rw[St.oi]
 have h1:=ht.fC x y
 have h2:=ht.fC y x
 simp only[iR,decide_eq_false_iff_not]
 omega
theorem re.mem{α:Type}{c:α→α→Int}{l:List α}{x:α}(h:re c l x):x∈l:=(List.mem_filter.1 (List.mem_of_mem_head? h)).1
theorem re.cons{α:Type}{c:α→α→Int}(ht:kM c)(p:α)(l:List α)(x:α):re c (p::l) x↔x=p∨(c x p≠0∧re c l x):=by
 unfold re
 by_cases h:c x p=0
 ·rw[List.filter_cons_of_pos ((fw ht x p).2 h),List.head?_cons]
  constructor
  ·intro e;left;exact(Option.some.inj e).symm
  ·rintro(e|e)
   ·rw[e]
   ·exact absurd h e.1
 ·rw[List.filter_cons_of_neg (by rw[fw ht];exact h)]
  constructor
  ·intro e;exact .inr ⟨h,e⟩
  ·rintro(e|e)
   ·subst e;exact absurd (ht.self x) h
   ·exact e.2
theorem CN{α:Type}{c:α→α→Int}(ht:kM c):∀(t:List α) (p:α),St.aR (iR c) (p::t)→∀x,x∈p::St.nB (fun a b=>decide (c a b=0)) p t↔re c (p::t) x
 |[],p,_,x=>by
  rw[re.cons ht]
  simp[St.nB,re]
 |y::t,p,hs,x=>by
  have hs2:St.aR (iR c) (y::t):=(List.pairwise_cons.1 hs).2
  have ih:=CN ht t y hs2 x
  have hpy:iR c y p=false:=(List.pairwise_cons.1 hs).1 y (by simp)
  have hr:=(lv ht hs2).1
  rw[re.cons ht,re.cons ht]at*
  have hrest:x∈St.nB (fun a b=>decide (c a b=0)) y t→c y x<0:=fun h=>by
   have:=(List.pairwise_cons.1 hr).1 x h
   simpa[iR]using this
  have hpy':¬c y p<0:=by simpa[iR]using hpy
  have hanti:=ht.fC y p
  by_cases he:c y p=0
  ·have e:St.nB (fun a b=>decide (c a b=0)) p (y::t)=St.nB (fun a b=>decide (c a b=0)) y t:=by simp[St.nB,he]
   rw[e,List.mem_cons]
   constructor
   ·rintro(h|h)
    ·exact .inl h
    ·have h1:=hrest h
     have h2:=ih.1 (by simp[h])
     refine .inr ⟨fun h0=>?_,h2⟩
     have:=ht.ed he ((ht.zero x p).1 h0)
     omega
   ·rintro(h|⟨h1,h2⟩)
    ·exact .inl h
    ·have h3:=ih.2 h2
     rcases List.mem_cons.1 h3 with h4|h4
     ·subst h4;exact absurd he h1
     ·exact .inr h4
  ·have e:St.nB (fun a b=>decide (c a b=0)) p (y::t)=y::St.nB (fun a b=>decide (c a b=0)) y t:=by simp[St.nB,he]
   rw[e,List.mem_cons,ih]
   constructor
   ·rintro(h|h)
    ·exact .inl h
    ·refine .inr ⟨fun h0=>?_,h⟩
     have h3:=ih.2 h
     rcases List.mem_cons.1 h3 with h4|h4
     ·subst h4;exact he h0
     ·have h5:=hrest h4
      rcases ht.dw y p x h5 with h6|h6
      ·omega
      ·have:=(ht.zero x p).1 h0;omega
   ·rintro(h|⟨_,h⟩)
    ·exact .inl h
    ·exact .inr h
theorem Aq{α:Type}{c:α→α→Int}(ht:kM c){l:List α}(h:St.aR (iR c) l)(x:α):x∈St.bC (fun a b=>decide (c a b=0)) l↔re c l x:=by
 cases l with
 |nil=>simp[St.bC,re]
 |cons p t=>exact CN ht t p h x
theorem D5{α:Type}{c:α→α→Int}(ht:kM c)(l:List α)(x:α):x∈a7 c l↔re c l x:=by
 unfold a7
 rw[Aq ht (St.dC ht.ord l)]
 unfold re
 rw[St.fy ht.ord l x]
theorem zW{α:Type}{c:α→α→Int}(ht:kM c):∀{X Y:List α},X.Pairwise (fun x y=>c x y<0)→Y.Pairwise (fun x y=>c x y<0)→(∀x,x∈X↔x∈Y)→X=Y
 |[],[],_,_,_=>rfl
 |[],y::Y,_,_,h=>by have:=(h y).2 (by simp);simp at this
 |x::X,[],_,_,h=>by have:=(h x).1 (by simp);simp at this
 |x::X,y::Y,hX,hY,h=>by
  rw[List.pairwise_cons]at hX hY
  have F7:∀z,¬c z z<0:=fun z=>by have:=ht.self z;omega
  have e:x=y:=by
   rcases List.mem_cons.1 ((h x).1 (by simp))with h1|h1
   ·exact h1
   ·rcases List.mem_cons.1 ((h y).2 (by simp))with h2|h2
    ·exact h2.symm
    ·have a:=hY.1 x h1
     have b:=hX.1 y h2
     have:=(ht.fC x y).1 b
     omega
  subst e
  rw[zW ht hX.2 hY.2 fun z=>?_]
  have hz:=h z
  simp only[List.mem_cons]at hz
  constructor
  ·intro hm
   rcases hz.1 (.inr hm)with e|e
   ·subst e;exact absurd (hX.1 z hm) (F7 z)
   ·exact e
  ·intro hm
   rcases hz.2 (.inr hm)with e|e
   ·subst e;exact absurd (hY.1 z hm) (F7 z)
   ·exact e
def ui(W:List aq)(v:aq):List aq:=match W[bS W v]? with
 |some w=>if aM w v=0 then W else W.take (bS W v)++v::W.drop (bS W v)
 |none=>W.take (bS W v)++v::W.drop (bS W v)
def j2(l:List aq):List aq:=l.foldl ui []
theorem u5(v:aq):∀{W:List aq},W.Pairwise (fun x y=>aM x y<0)→(∀x∈W.take (bS W v),aM x v<0)∧(∀x∈W.drop (bS W v),¬aM x v<0)
 |[],_=>by simp
 |w::W,h=>by
  rw[List.pairwise_cons]at h
  have ih:=u5 v h.2
  by_cases hw:aM w v<0
  ·have e:bS (w::W) v=bS W v+1:=by simp[bS,hw]
   rw[e,List.take_succ_cons,List.drop_succ_cons]
   refine⟨fun x hx=>?_,ih.2⟩
   rcases List.mem_cons.1 hx with rfl|hx
   ·exact hw
   ·exact ih.1 x hx
  ·have hall:∀x∈W,¬aM x v<0:=fun x hx hlt=>by
    rcases aG.dw w v x (h.1 x hx)with h1|h1
    ·exact hw h1
    ·have:=(aG.fC x v).1 hlt;omega
   have e:bS (w::W) v=0:=by
    unfold bS
    rw[List.countP_eq_zero]
    intro x hx
    rcases List.mem_cons.1 hx with rfl|hx
    ·simpa using hw
    ·simpa using hall x hx
   rw[e]
   refine⟨fun x hx=>by simp at hx,fun x hx=>?_⟩
   rcases List.mem_cons.1 hx with rfl|hx
   ·exact hw
   ·exact hall x hx
structure nD (l W:List aq):Prop where
 AQ:W.Pairwise fun x y=>aM x y<0
 mem:∀x,x∈W↔re aM l x
theorem nD.has{l W:List aq}(h:nD l W){v:aq}(hv:v∈l):∃w∈W,aM v w=0:=by
 have hne:l.filter (St.eqv (iR aM) v)≠[]:=fun h0=>by
  have:v∈l.filter (St.eqv (iR aM) v):=List.mem_filter.2 ⟨hv,(fw aG v v).2 (aG.self v)⟩
  rw[h0]at this;simp at this
 obtain⟨w,hw⟩:∃w,(l.filter (St.eqv (iR aM) v)).head?=some w:=by
  cases hf:l.filter (St.eqv (iR aM) v)with
  |nil=>exact absurd hf hne
  |cons a b=>exact⟨a,rfl⟩
 have hwm:=List.mem_of_mem_head? hw
 have hvw:=(fw aG v w).1 (List.mem_filter.1 hwm).2
 refine⟨w,(h.mem w).2 ?_,hvw⟩
 unfold re
 have e:St.eqv (iR aM) w=St.eqv (iR aM) v:=by
  funext z
  rw[Bool.eq_iff_iff,fw aG,fw aG]
  exact⟨fun h=>aG.ed hvw h,fun h=>aG.ed ((aG.zero v w).1 hvw) h⟩
 rw[e];exact hw
theorem xy{l:List aq}{v w:aq}(hw:w∈l)(hc:aM w v=0)(x:aq):re aM (l++[v]) x↔re aM l x:=by
 unfold re
 rw[List.filter_append]
 by_cases h:aM x v=0
 ·have hx:w∈l.filter (St.eqv (iR aM) x):=List.mem_filter.2 ⟨hw,(fw aG x w).2 (aG.ed h ((aG.zero w v).1 hc))⟩
  cases hf:l.filter (St.eqv (iR aM) x)with
  |nil=>rw[hf]at hx;simp at hx
  |cons a b=>simp
 ·rw[List.filter_cons_of_neg (by rw[fw aG];exact h),List.filter_nil,List.append_nil]
theorem xG{l:List aq}{v:aq}(hn:∀w∈l,aM w v≠0)(x:aq):re aM (l++[v]) x↔re aM l x∨x=v:=by
 have e0:∀y,aM y v=0→l.filter (St.eqv (iR aM) y)=[]:=fun y hy=>by
  rw[List.filter_eq_nil_iff]
  intro w hw h0
  exact hn w hw (aG.ed ((aG.zero y w).1 ((fw aG y w).1 h0)) hy)
 unfold re
 rw[List.filter_append]
 by_cases h:aM x v=0
 ·rw[e0 x h,List.filter_cons_of_pos ((fw aG x v).2 h)]
  simp
  exact eq_comm
 ·rw[List.filter_cons_of_neg (by rw[fw aG];exact h),List.filter_nil,List.append_nil]
  constructor
  ·exact .inl
  ·rintro(h1|h1)
   ·exact h1
   ·subst h1;exact absurd (aG.self x) h
theorem ID{l W:List aq}(h:nD l W)(v:aq):nD (l++[v]) (ui W v):=by
 have hcut:=u5 v h.AQ
 by_cases hx:∃w∈W,aM w v=0
 ·obtain⟨w,hw,hc⟩:=hx
  have hwl:=((h.mem w).1 hw).mem
  have hat:∃u,W[bS W v]?=some u∧aM u v=0:=by
   have hd:w∈W.drop (bS W v):=by
    rw[←List.take_append_drop (bS W v) W,List.mem_append]at hw
    rcases hw with h1|h1
    ·have:=hcut.1 w h1;omega
    ·exact h1
   cases hdr:W.drop (bS W v)with
   |nil=>rw[hdr]at hd;simp at hd
   |cons u U=>
    have hu:W[bS W v]?=some u:=by
     have:=congrArg (fun L=>L[0]?) hdr
     simpa[List.getElem?_drop]using this
    refine⟨u,hu,?_⟩
    have h1:=hcut.2 u (by rw[hdr];simp)
    have hp:(u::U).Pairwise fun x y=>aM x y<0:=by rw[←hdr];exact h.AQ.drop
    rw[hdr]at hd
    rcases List.mem_cons.1 hd with e|e
    ·subst e;exact hc
    ·have h2:=(List.pairwise_cons.1 hp).1 w e
     have:=(aG.zero w v).1 hc
     rcases aG.dw u v w h2 with h3|h3
     ·exact absurd h3 h1
     ·omega
  obtain⟨u,hu,hcu⟩:=hat
  have e:ui W v=W:=by simp[ui,hu,hcu]
  rw[e]
  exact⟨h.AQ,fun x=>by rw[h.mem x,xy hwl hc]⟩
 ·have hn:∀w∈W,aM w v≠0:=fun w hw hc=>hx ⟨w,hw,hc⟩
  have e:ui W v=W.take (bS W v)++v::W.drop (bS W v):=by
   unfold ui
   split
   ·rename_i w hw;rw[if_neg (hn w (List.mem_of_getElem? hw))]
   ·rfl
  have hnl:∀w∈l,aM w v≠0:=fun w hw hc=>by
   obtain⟨u,hu,huc⟩:=h.has hw
   exact hn u hu (aG.ed ((aG.zero w u).1 huc) hc)
  rw[e]
  refine⟨?_,fun x=>?_⟩
  ·have h0:=h.AQ
   rw[←List.take_append_drop (bS W v) W,List.pairwise_append]at h0
   rw[List.pairwise_append,List.pairwise_cons]
   have hgt:∀x∈W.drop (bS W v),aM v x<0:=fun x hx=>by
    have h1:=hcut.2 x hx
    have h2:=hn x (List.mem_of_mem_drop hx)
    exact(aG.fC v x).2 (by omega)
   refine⟨h0.1,⟨hgt,h0.2.1⟩,fun x hx y hy=>?_⟩
   rcases List.mem_cons.1 hy with rfl|hy
   ·exact hcut.1 x hx
   ·exact h0.2.2 x hx y hy
  ·rw[xG hnl,←h.mem x,List.mem_append,List.mem_cons]
   have:= @List.mem_append _ x (W.take (bS W v)) (W.drop (bS W v))
   rw[List.take_append_drop]at this
   rw[this]
   constructor
   ·rintro(h1|h1|h1)
    ·exact .inl (.inl h1)
    ·exact .inr h1
    ·exact .inl (.inr h1)
   ·rintro((h1|h1)|h1)
    ·exact .inl h1
    ·exact .inr (.inr h1)
    ·exact .inr (.inl h1)
theorem As(l:List aq)(v:aq):j2 (l++[v])=ui (j2 l) v:=by simp[j2]
theorem Dx:∀(m l W:List aq),nD l W→nD (l++m) (m.foldl ui W)
 |[],l,W,h=>by rw[List.append_nil];exact h
 |v::m,l,W,h=>by
  have:=Dx m (l++[v]) (ui W v) (ID h v)
  rwa[List.append_assoc]at this
theorem p7(l:List aq):nD l (j2 l):=Dx l [] [] ⟨List.Pairwise.nil,fun x=>by simp[re]⟩
theorem uW(l:List aq):j2 l=a7 aM l:=
 zW aG (p7 l).AQ ((sj aG l).imp fun h=>by simpa[iR]using h) fun x=>by rw[(p7 l).mem,D5 aG]
theorem td(l:List aq):(j2 l).length≤l.length:=by
 rw[uW]
 have h:=St.ln (eq:=fun a b=>decide (aM a b=0)) (St.ct (iR aM) l)
 rwa[St.dm]at h
theorem AB{l:List aq}{x:aq}(h:x∈j2 l):x∈l:=((p7 l).mem x|>.1 h).mem
theorem JK(l:List aq):(∀c∈l.map aq.enc,c.length=3)=True:=eq_true fun c hc=>by obtain⟨a,_,rfl⟩:=List.mem_map.1 hc;rfl
theorem oR(l:List aq)(nn:Bool)(hl:l.length≤1000000000)(hs:∀k∈l,k.s.size≤9223372036854775807)(H:aa):
  ag Tryz.prog 166 [.d (.list nn (l.map aq.enc))] H (.ok (.d (.list false ((a7 aM l).map aq.enc)))) H:=by
 refine ag.aj (hint:=(fun t=>t==35)) Tryz.func166 (by kernel_rfl) rfl [2] (by kernel_rfl) (by decide) (by simp[Tryz.ntmps166]) ?_
 rw[Tryz.ntmps166]
 simp -implicitDefEqProofs only[go_sem,Nat.reduceAdd,Nat.reduceBEq]
 rw[←uW]
 refine aP (fun k s H'=>H'=H∧s 0= .d (.list nn (l.map aq.enc))∧s 3= .d (.list false ((j2 (l.take k)).map aq.enc))∧s 4=iA k) l.length (by omega) (ay.Nw _ _ 3 (by simp -implicitDefEqProofs only[↓reduceIte,go_sem,Nat.reduceLT,Nat.reduceEqDiff])) ?_ ?_ ?_
 ·refine⟨rfl,?_⟩
  simp -implicitDefEqProofs only[↓reduceIte,go_sem,Nat.reduceLT,Nat.reduceEqDiff,reduceCtorEq]
  rfl
 ·rintro k s H' hk hw ⟨rfl,t0,t3,t4⟩
  have hx:=List.getElem?_eq_getElem hk
  have e1:=As (l.take k) l[k]
  rw[←List.take_succ_eq_append_getElem hk]at e1
  have hle:=td (l.take k)
  have hle2:=td (l.take (k+1))
  rw[List.length_take]at hle hle2
  have hxs:=hs _ (List.getElem_mem hk)
  have hWs:∀w∈j2 (l.take k),w.s.size≤9223372036854775807:=fun w hw=>hs w (List.mem_of_mem_take (AB hw))
  rw[e1]at hle2⊢
  generalize j2 (l.take k)=W at*
  generalize l[k]=x at*
  have hb:=u6 W x
  have e2:ui W x=match W[bS W x]? with|some w=>if aM w x=0 then W else W.take (bS W x)++x::W.drop (bS W x)|none=>W.take (bS W x)++x::W.drop (bS W x):=rfl
  have hbd:=xm W x false H' (by omega) hWs
  generalize bS W x=a at*
  simp -implicitDefEqProofs only[↓reduceIte,go_sem,Nat.reduceAdd,Nat.reduceLT,Nat.reduceEqDiff,reduceCtorEq,t0,t3,t4,hk,List.length_map,hx,aq.enc]
  refine ae.ok hbd ?_
  simp -implicitDefEqProofs only[↓reduceIte,go_sem,Nat.reduceAdd,Nat.reduceLT,Nat.reduceBEq]
  obtain⟨P,hP⟩:∃P,P=W.take a:=⟨_,rfl⟩
  obtain⟨Q,hQ⟩:∃Q,Q=W.drop a:=⟨_,rfl⟩
  have hPl:P.length=a:=by rw[hP,List.length_take];omega
  have hQl:Q.length=W.length-a:=by rw[hQ,List.length_drop]
  have f1:List.take a (List.map aq.enc W)=P.map aq.enc:=by rw[hP,List.map_take]
  have f2:List.take W.length (List.map aq.enc W)=List.map aq.enc W:=List.take_of_length_le (by simp)
  have f3:List.drop a (List.map aq.enc W)=Q.map aq.enc:=by rw[hQ,List.map_drop]
  have f4:P.map aq.enc++[D.v (.int .i64 x.kind),D.v (.int .i64 x.i),D.v (.string x.s)]::Q.map aq.enc=(P++x::Q).map aq.enc:=by simp[aq.enc]
  have f5:((P++x::Q).map aq.enc).take (a+1+Q.length)=(P++x::Q).map aq.enc:=List.take_of_length_le (by simp;omega)
  rw[←hP,←hQ]at e2
  by_cases ha:a<W.length
  ·have hy:=List.getElem?_eq_getElem ha
   have hys:=hWs _ (List.getElem_mem ha)
   rw[hy]at e2
   generalize W[a]=y at*
   refine aO K.mixed (by kernel_rfl) ?_
   simp -implicitDefEqProofs only[↓reduceIte,go_sem,Nat.reduceAdd,Nat.reduceLT,Nat.reduceEqDiff,reduceCtorEq,t0,t3,t4,List.length_map,hx,aq.enc,ha,hy]
   refine ae.ok (iF y x hys _) ?_
   by_cases hc:aM y x=0
   ·simp only[hc,if_true]at e2
    simp -implicitDefEqProofs only[↓reduceIte,go_sem,Nat.reduceAdd,Nat.reduceLT,Nat.reduceEqDiff,Nat.reduceBEq,hc,t4]
    refine c9.same ⟨rfl,?_⟩
    simp -implicitDefEqProofs only[↓reduceIte,go_sem,Nat.reduceLT,Nat.reduceEqDiff,reduceCtorEq,t0,t3,hw,e2]
   ·simp only[hc,if_false]at e2
    simp -implicitDefEqProofs only[↓reduceIte,go_sem,Nat.reduceAdd,Nat.reduceLT,Nat.reduceEqDiff,Nat.reduceBEq,hc]
    simp -implicitDefEqProofs only[↓reduceIte,go_sem,Nat.reduceAdd,Nat.reduceLT,Nat.reduceLeDiff,Nat.reduceEqDiff,Nat.reduceBEq,Int.reduceLE,Int.reduceToNat,reduceCtorEq,t0,t3,t4,List.length_map,JK,hb,hx,aq.enc,f1,f2,f3,hPl]
    refine⟨by omega,by omega,by omega,by omega,by omega,by omega,?_⟩
    refine c9.cut [] _ 0 rfl rfl (by simp -implicitDefEqProofs only[go_sem]) ?_
    refine⟨List.append_nil _,?_⟩
    simp -implicitDefEqProofs only[↓reduceIte,go_sem,Nat.reduceLT,Nat.reduceEqDiff,reduceCtorEq,t0,hw,e2,f4,f5]
  ·rw[List.getElem?_eq_none (by omega)]at e2
   simp only at e2
   refine aO K.mixed (by kernel_rfl) ?_
   simp -implicitDefEqProofs only[↓reduceIte,go_sem,Nat.reduceAdd,Nat.reduceLT,Nat.reduceEqDiff,Nat.reduceBEq,Int.reduceLE,Int.reduceToNat,reduceCtorEq,t0,t3,t4,List.length_map,ha]
   simp -implicitDefEqProofs only[↓reduceIte,go_sem,Nat.reduceAdd,Nat.reduceLT,Nat.reduceLeDiff,Nat.reduceEqDiff,Nat.reduceBEq,t3,t4,List.length_map,JK,hb,hx,aq.enc,f1,f2,f3,hPl]
   refine⟨by omega,by omega,by omega,by omega,by omega,by omega,?_⟩
   refine c9.cut [] _ 0 rfl rfl (by simp -implicitDefEqProofs only[go_sem]) ?_
   refine⟨List.append_nil _,?_⟩
   simp -implicitDefEqProofs only[↓reduceIte,go_sem,Nat.reduceLT,Nat.reduceEqDiff,reduceCtorEq,t0,hw,e2,f4,f5]
 ·rintro s H' ⟨rfl,t0,t3,t4⟩
  rw[show l.take l.length=l from List.take_length]at t3
  simp -implicitDefEqProofs only[↓reduceIte,go_sem,Nat.reduceAdd,Nat.reduceLT,Nat.reduceEqDiff,Nat.reduceBEq,reduceCtorEq,t0,t3,t4,List.length_map]
  refine aw.aI ?_
  simp -implicitDefEqProofs only[↓reduceIte,go_sem,Nat.reduceLT]
theorem y6(b:List Nat)(m:Nat)(k:Int)(hm:m≤4096)(hl:b.length≤140737488351232)(hb:∀c∈b,c<256)(H:aa):
  ag Tryz.prog 160 [.d (.list false (aD b)),iA m,iA k] H (.ok (if(aX k m b).2.2=0 then .bz [.d (.list false ((aX k m b).1.map aq.enc)),.d (.list false (aD (aX k m b).2.1)),iA 0]else .bz [.d (.v (.slice none 0 0)),.d (.v (.slice none 0 0)),iA (aX k m b).2.2])) H:=by
 have hj0:=mM k m b
 refine ag.aj (hint:=(fun _=>false)) Tryz.func160 (by kernel_rfl) rfl [6,7,8] (by kernel_rfl) (by decide) (by simp[Tryz.ntmps160]) ?_
 rw[Tryz.ntmps160]
 simp -implicitDefEqProofs only[go_sem]
 refine aP (fun j s H'=>∃L c,H'=H++[.arr 25 3 j (L.map aq.enc)]∧L.length=j∧c.length≤b.length∧(∀x∈c,x<256)∧jt L (aX k (m-j) c)=aX k m b∧s 0= .d (.list false (aD c))∧s 1=iA m∧s 2=iA k∧s 9= .sl H.length j 0 j∧s 10=iA j) m (by omega) (ay.db _ _ 9 25 3 (by decide) (by simp -implicitDefEqProofs only[↓reduceIte,go_sem,Nat.reduceLT,Nat.reduceEqDiff]) _) ?_ ?_ ?_
 ·refine⟨[],b,rfl,rfl,Nat.le_refl _,hb,by simpa using hj0,?_⟩
  simp -implicitDefEqProofs only[↓reduceIte,go_sem,Nat.reduceLT,Nat.reduceEqDiff,reduceCtorEq]
 ·rintro j s H' hj hw ⟨L,c,rfl,hL,hcl,hcb,hjoin,t0,t1,t2,t9,t10⟩
  have hod:=fun H=>mz c k (by omega) hcb H
  obtain⟨p,hp⟩:=eA c k
  obtain⟨q,hq⟩:∃q,m-j=q+1:=⟨m-j-1,by omega⟩
  have hst:=fun v r h=>nF (k:=k) (n:=q) (b:=c) (r:=r) (v:=v) L h
  have hsp:=fun v r e h he=>nP (k:=k) (n:=q) (b:=c) (r:=r) (v:=v) (e:=e) L h he
  rw[hq]at hjoin
  rcases hv:ej c k with⟨v,r,e⟩
  simp only[hv]at hod hp hst hsp
  simp -implicitDefEqProofs only[↓reduceIte,go_sem,Nat.reduceLT,Nat.reduceEqDiff,reduceCtorEq,t0,t1,t2,t10,hj]
  refine ae.ok (hod _) ?_
  by_cases he:e=0
  ·subst he
   have hsn:L.map aq.enc++[[D.v (.int .i64 v.kind),D.v (.int .i64 v.i),D.v (.string v.s)]]=(L++[v]).map aq.enc:=by simp[aq.enc]
   simp -implicitDefEqProofs only[↓reduceIte,go_sem,ah,au,Nat.reduceAdd,Nat.reduceLT,Nat.reduceLeDiff,Nat.reduceEqDiff,reduceCtorEq,t9,List.length_map,hL,hsn]
   refine⟨by omega,by omega,?_⟩
   simp -implicitDefEqProofs only[↓reduceIte,go_sem,Nat.reduceLT,t10]
   refine c9.cut [.arr 25 3 (j+1) ((L++[v]).map aq.enc)] [.box 25 3 0 1 [iA v.kind,iA v.i,sA v.s]] 1 rfl rfl (by simp -implicitDefEqProofs only[go_sem]) ?_
   refine⟨L++[v],r,rfl,by simp[hL],?_,?_,?_,?_⟩
   ·rw[hp,List.length_drop];omega
   ·intro x hx
    rw[hp]at hx
    exact hcb x (List.mem_of_mem_drop hx)
   ·rw[show m-(j+1)=q by omega,←hst v r rfl,hjoin]
   ·simp -implicitDefEqProofs only[↓reduceIte,go_sem,Nat.reduceLT,Nat.reduceEqDiff,reduceCtorEq,t1,t2,hw]
  ·simp -implicitDefEqProofs only[↓reduceIte,go_sem,au,Nat.reduceAdd,Nat.reduceLT,Nat.reduceEqDiff,he]
   refine aw.ret ?_
   have hN:aX k m b=([],[],e):=by rw[←hjoin];exact hsp v r e rfl he
   rw[hN]
   simp -implicitDefEqProofs only[↓reduceIte,go_sem,Nat.reduceLT,Nat.reduceEqDiff,he]
 ·rintro s H' ⟨L,c,rfl,hL,hcl,hcb,hjoin,t0,t1,t2,t9,t10⟩
  have hN:aX k m b=(L,c,0):=by rw[←hjoin,Nat.sub_self];simp[jt,aX]
  rw[hN]
  simp -implicitDefEqProofs only[↓reduceIte,go_sem,Nat.reduceLT,Nat.reduceEqDiff,reduceCtorEq,t0,t1,t9,t10]
  refine aw.ret ?_
  simp -implicitDefEqProofs only[↓reduceIte,go_sem,Nat.reduceLT,Nat.reduceEqDiff,List.take_of_length_le (show(L.map aq.enc).length≤m by rw[List.length_map];omega)]
theorem rT(b:List Nat)(m:Nat)(k:Int)(hm:m≤4096)(hl:b.length≤140737488351232)(hb:∀c∈b,c<256)(H:aa):
  ag Tryz.prog 160 [.d (.list false (aD b)),iA m,iA k] H (.ok (.bz [.d (.list false ((aX k m b).1.map aq.enc)),.d (.list false (aD (aX k m b).2.1)),iA (aX k m b).2.2])) H:=by
 have h:=y6 b m k hm hl hb H
 by_cases he:(aX k m b).2.2=0
 ·rw[if_pos he]at h
  rw[he]
  exact h
 ·rw[if_neg he]at h
  rw[FW he]
  exact ag.bE h (.cons .nil (.cons .nil (.cons (.refl _) .nil)))
theorem nd(n:Nat)(hn:n≤1000000000000)(H:aa):ag Tryz.prog 169 [iA n] H (.ok (iA (dJ n))) H:=by
 have m:max (IntKind.i64.wrap ((n:Int)-1)) 0=((n-1:Nat):Int):=by rw[wrap64_in _ (by omega) (by omega)];omega
 have u:=aK (n-1) (by omega)
 have hw:dJ n≤64:=(fO _ 64).2 (by omega)
 have hx:∀w,n-1<2^w↔dJ n≤w:=fun w=>(fO _ w).symm
 have hfd:∀(w:Nat) (hw:w≤1000) H,ag Tryz.prog 174 [.d (.v (.int .u64 ((n-1:Nat):Int))),iA w] H (.ok (bA (decide (dJ n≤w)))) H:=fun w hw H=>by
  have:=pV (n-1) w (by omega) hw H
  rwa[decide_eq_decide.2 (hx w)]at this
 refine ag.aj (hint:=(fun _=>false)) Tryz.func169 (by kernel_rfl) rfl [2] (by kernel_rfl) (by decide) (by simp[Tryz.ntmps169]) ?_
 rw[Tryz.ntmps169]
 simp -implicitDefEqProofs only[go_sem]
 refine cl _ _ _ _ (fun(w:Nat) s H'=>H'=H∧w≤dJ n∧s 0=iA n∧s 3=iA w) (fun w=>64-w) 0 (ay.refl _ _) ?_ ?_
 ·refine⟨rfl,Nat.zero_le _,?_⟩
  simp -implicitDefEqProofs only[↓reduceIte,go_sem,Nat.reduceLT,reduceCtorEq]
 ·rintro w s H' ⟨rfl,hle,t0,t3⟩
  generalize ((n-1:Nat):Int)=q at*
  generalize hy:dJ n=y at*
  simp -implicitDefEqProofs only[↓reduceIte,go_sem,Nat.reduceLT,Nat.reduceEqDiff,t0,m,u,t3,List.foldl_cons,List.foldl_nil]
  refine ae.ok (hfd w (by omega) _) ?_
  by_cases h:y≤w
  ·obtain rfl:w=y:=by omega
   simp -implicitDefEqProofs only[↓reduceIte,go_sem,Nat.reduceLT,Nat.reduceEqDiff,h,t3]
   refine aw.aI ?_
   simp -implicitDefEqProofs only[↓reduceIte,go_sem,Nat.reduceLT]
  ·have hw1:IntKind.i64.wrap ((w:Int)+1)=((w+1:Nat):Int):=by rw[wrap64_in _ (by omega) (by omega)];rfl
   simp -implicitDefEqProofs only[↓reduceIte,go_sem,Nat.reduceLT,Nat.reduceEqDiff,h,t3,hw1]
   refine⟨_,_,w+1,.refl _ _,⟨rfl,by omega,?_⟩,by omega⟩
   simp -implicitDefEqProofs only[↓reduceIte,go_sem,Nat.reduceLT,reduceCtorEq,t0]
theorem pY(l:List aq)(k:Int)(nn:Bool)(hok:∀v∈l,eJ v.i)(H:aa)(hl:l.length≤1000000000000):
  ag Tryz.prog 136 [.d (.list nn (l.map aq.enc)),iA k] H (.ok (.bz [.d (.list false (aD (iI l k))),iA (aS l k)])) H:=by
 by_cases hp:aS l k=0
 ·rw[show iI l k=aY l from if_pos hp]
  have hmay:=eu hp
  have h4:=dO hp
  have hWb:=vb hok hmay
  refine ag.aj (hint:=(fun _=>false)) Tryz.func136 (by kernel_rfl) rfl [4,5] (by kernel_rfl) (by decide) (by simp[Tryz.ntmps136]) ?_
  rw[Tryz.ntmps136]
  simp -implicitDefEqProofs only[↓reduceIte,go_sem,Nat.reduceLT,Nat.reduceEqDiff,reduceCtorEq]
  refine ae.ok (dT l k nn _ (by omega)) ?_
  rw[hp]
  simp -implicitDefEqProofs only[↓reduceIte,go_sem,Nat.reduceLT]
  refine aP (fun j s H'=>∃ver,H'=H++[.arr 5 1 ver (aD (aY (l.take j)))]∧s 0= .d (.list nn (l.map aq.enc))∧s 7= .sl H.length ver 0 (aY (l.take j)).length∧s 8=iA j) l.length (by omega) (ay.db _ _ 7 5 1 (by decide) (by simp -implicitDefEqProofs only[↓reduceIte,go_sem,Nat.reduceLT,Nat.reduceEqDiff]) _) ?_ ?_ ?_
  ·refine⟨0,rfl,?_⟩
   simp -implicitDefEqProofs only[↓reduceIte,go_sem,Nat.reduceLT,Nat.reduceEqDiff,reduceCtorEq]
   rfl
  ·rintro j s H' hj hw ⟨ver,rfl,t0,t7,t8⟩
   have hx:=List.getElem?_eq_getElem hj
   have hm:=List.getElem_mem hj
   have hb:=hWb j (by omega)
   have hvl:=dk (hok _ hm) (hmay _ hm)
   have e1:aY (l.take (j+1))=aY (l.take j)++cW l[j]:=by rw[List.take_succ_eq_append_getElem hj,fG]
   have hvd:=fun H=>fB l[j] (hok _ hm) (hmay _ hm) H
   rw[e1]
   generalize aY (l.take j)=B at*
   generalize l[j]=w at*
   simp -implicitDefEqProofs only[↓reduceIte,go_sem,Nat.reduceAdd,Nat.reduceLT,Nat.reduceEqDiff,reduceCtorEq,t0,t8,hj,List.length_map,hx,aq.enc]
   refine ae.ok (hvd _) ?_
   simp -implicitDefEqProofs only[↓reduceIte,go_sem,Nat.reduceLT,Nat.reduceEqDiff,t7,t8,aL,ai,dh,hw]
   refine⟨by omega,by omega,?_⟩
   refine c9.same ⟨ver+1,rfl,?_⟩
   simp -implicitDefEqProofs only[↓reduceIte,go_sem,Nat.reduceLT,Nat.reduceEqDiff,reduceCtorEq,t0]
  ·rintro s H' ⟨ver,rfl,t0,t7,t8⟩
   rw[show l.take l.length=l from List.take_length]at*
   simp -implicitDefEqProofs only[↓reduceIte,go_sem,Nat.reduceLT,Nat.reduceEqDiff,reduceCtorEq,t0,t7,t8,List.length_map]
   refine aw.ret ?_
   simp -implicitDefEqProofs only[↓reduceIte,go_sem,Nat.reduceLT,Nat.reduceEqDiff,List.take_of_length_le (Nat.le_of_eq (ai (aY l)))]
 ·rw[show iI l k=[]from if_neg hp]
  refine ag.bE (cs:=[.d (.v (.slice none 0 0)),iA (aS l k)]) ?_ (.cons .nil (.cons (.refl _) .nil))
  refine ag.aj (hint:=(fun _=>false)) Tryz.func136 (by kernel_rfl) rfl [4,5] (by kernel_rfl) (by decide) (by simp[Tryz.ntmps136]) ?_
  rw[Tryz.ntmps136]
  simp -implicitDefEqProofs only[↓reduceIte,go_sem,Nat.reduceLT,Nat.reduceEqDiff,reduceCtorEq]
  refine ae.ok (dT l k nn _ (by omega)) ?_
  simp -implicitDefEqProofs only[↓reduceIte,go_sem,Nat.reduceLT,Nat.reduceEqDiff,hp]
  refine aw.aI ?_
  simp -implicitDefEqProofs only[↓reduceIte,go_sem,Nat.reduceLT,Nat.reduceEqDiff]
theorem tG(b:List Nat)(n k:Int)(hl:b.length≤140737488351232)(hb:∀c∈b,c<256)(H:aa):
  ag Tryz.prog 131 [.d (.list false (aD b)),iA n,iA k] H (.ok (.bz [.d (.list false ((de b n k).1.map aq.enc)),iA (de b n k).2])) H:=by
 have bad:∀e:Int,(∀H,ag Tryz.prog 131 [.d (.list false (aD b)),iA n,iA k] H (.ok (.bz [.d (.v (.slice none 0 0)),iA e])) H)→de b n k=([],e)→ag Tryz.prog 131 [.d (.list false (aD b)),iA n,iA k] H (.ok (.bz [.d (.list false ((de b n k).1.map aq.enc)),iA (de b n k).2])) H:=by
  intro e h he
  rw[he]
  exact ag.bE (h H) (.cons .nil (.cons (.refl _) .nil))
 have hkd:=fun H=>c7 k H
 by_cases hk:bJ k=false
 ·refine bad 1 (fun H=>?_) (if_pos hk)
  refine ag.aj (hint:=(fun _=>false)) Tryz.func131 (by kernel_rfl) rfl [6,7] (by kernel_rfl) (by decide) (by simp[Tryz.ntmps131]) ?_
  rw[Tryz.ntmps131]
  simp -implicitDefEqProofs only[↓reduceIte,go_sem,Nat.reduceLT,Nat.reduceEqDiff]
  refine ae.ok (hkd _) ?_
  simp -implicitDefEqProofs only[↓reduceIte,go_sem,Nat.reduceLT,hk]
  refine aw.aI ?_
  simp -implicitDefEqProofs only[↓reduceIte,go_sem,Nat.reduceLT,Nat.reduceEqDiff]
 have e0:de b n k=_:=if_neg hk
 have hk1:bJ k=true:=by simpa using hk
 by_cases h1:n<0
 ·refine bad 2 (fun H=>?_) (by rw[e0,if_pos h1])
  refine ag.aj (hint:=(fun _=>false)) Tryz.func131 (by kernel_rfl) rfl [6,7] (by kernel_rfl) (by decide) (by simp[Tryz.ntmps131]) ?_
  rw[Tryz.ntmps131]
  simp -implicitDefEqProofs only[↓reduceIte,go_sem,Nat.reduceLT,Nat.reduceEqDiff]
  refine ae.ok (hkd _) ?_
  simp -implicitDefEqProofs only[↓reduceIte,go_sem,Nat.reduceLT,Nat.reduceEqDiff,hk1,h1]
  refine aw.aI ?_
  simp -implicitDefEqProofs only[↓reduceIte,go_sem,Nat.reduceLT,Nat.reduceEqDiff]
 rw[if_neg h1]at e0
 by_cases h2:4096<n
 ·refine bad 2 (fun H=>?_) (by rw[e0,if_pos h2])
  refine ag.aj (hint:=(fun _=>false)) Tryz.func131 (by kernel_rfl) rfl [6,7] (by kernel_rfl) (by decide) (by simp[Tryz.ntmps131]) ?_
  rw[Tryz.ntmps131]
  simp -implicitDefEqProofs only[↓reduceIte,go_sem,Nat.reduceLT,Nat.reduceEqDiff]
  refine ae.ok (hkd _) ?_
  simp -implicitDefEqProofs only[↓reduceIte,go_sem,Nat.reduceLT,Nat.reduceEqDiff,reduceCtorEq,hk1,h1,h2]
  refine aw.aI ?_
  simp -implicitDefEqProofs only[↓reduceIte,go_sem,Nat.reduceLT,Nat.reduceEqDiff]
 rw[if_neg h2]at e0
 obtain⟨m,rfl⟩:∃m:Nat,n=(m:Int):=⟨n.toNat,by omega⟩
 rw[Int.toNat_natCast]at e0
 have hs:=fun H=>rT b m k (by omega) hl hb H
 have h1f:((m:Int)<0)=False:=eq_false h1
 have h2f:((4096:Int)<(m:Int))=False:=eq_false h2
 generalize aX k m b=t at*
 obtain⟨L,r,e⟩:=t
 simp only at hs e0
 by_cases c1:e≠0
 ·refine bad e (fun H=>?_) (by rw[e0,if_pos c1])
  refine ag.aj (hint:=(fun _=>false)) Tryz.func131 (by kernel_rfl) rfl [6,7] (by kernel_rfl) (by decide) (by simp[Tryz.ntmps131]) ?_
  rw[Tryz.ntmps131]
  simp -implicitDefEqProofs only[↓reduceIte,go_sem,Nat.reduceLT,Nat.reduceEqDiff]
  refine ae.ok (hkd _) ?_
  simp -implicitDefEqProofs only[↓reduceIte,go_sem,Nat.reduceLT,Nat.reduceEqDiff,reduceCtorEq,hk1,h1f,h2f]
  refine ae.ok (hs _) ?_
  simp -implicitDefEqProofs only[↓reduceIte,go_sem,Nat.reduceLT,Nat.reduceEqDiff,c1]
  refine aw.aI ?_
  simp -implicitDefEqProofs only[↓reduceIte,go_sem,Nat.reduceLT,Nat.reduceEqDiff]
 rw[if_neg c1]at e0
 obtain rfl:e=0:=by simpa using c1
 by_cases c2:r≠[]
 ·refine bad 4 (fun H=>?_) (by rw[e0,if_pos c2])
  have:r.length≠0:=fun h=>c2 (List.eq_nil_of_length_eq_zero h)
  refine ag.aj (hint:=(fun _=>false)) Tryz.func131 (by kernel_rfl) rfl [6,7] (by kernel_rfl) (by decide) (by simp[Tryz.ntmps131]) ?_
  rw[Tryz.ntmps131]
  simp -implicitDefEqProofs only[↓reduceIte,go_sem,Nat.reduceLT,Nat.reduceEqDiff]
  refine ae.ok (hkd _) ?_
  simp -implicitDefEqProofs only[↓reduceIte,go_sem,Nat.reduceLT,Nat.reduceEqDiff,reduceCtorEq,hk1,h1f,h2f]
  refine ae.ok (hs _) ?_
  simp -implicitDefEqProofs only[↓reduceIte,go_sem,Nat.reduceLT,Nat.reduceEqDiff,ai,show((r.length:Int)=0)=False from eq_false (by omega)]
  refine aw.aI ?_
  simp -implicitDefEqProofs only[↓reduceIte,go_sem,Nat.reduceLT,Nat.reduceEqDiff]
 rw[if_neg c2]at e0
 rw[e0]
 obtain rfl:r=[]:=by simpa using c2
 refine ag.aj (hint:=(fun _=>false)) Tryz.func131 (by kernel_rfl) rfl [6,7] (by kernel_rfl) (by decide) (by simp[Tryz.ntmps131]) ?_
 rw[Tryz.ntmps131]
 simp -implicitDefEqProofs only[↓reduceIte,go_sem,Nat.reduceLT,Nat.reduceEqDiff]
 refine ae.ok (hkd _) ?_
 simp -implicitDefEqProofs only[↓reduceIte,go_sem,Nat.reduceLT,Nat.reduceEqDiff,reduceCtorEq,hk1,h1f,h2f]
 refine ae.ok (hs _) ?_
 simp -implicitDefEqProofs only[↓reduceIte,go_sem,Nat.reduceLT,Nat.reduceEqDiff,ai,List.length_nil]
 refine aw.aI ?_
 simp -implicitDefEqProofs only[↓reduceIte,go_sem,Nat.reduceLT,Nat.reduceEqDiff]
theorem xQ(R:List (Nat×aq))(v:aq)(h:R=[]∨(cM R).2≠v):∀n,(List.replicate (n+1) v).foldl gH R=R++[(n+1,v)]
 |0=>by
  show gH R v=_
  unfold gH
  rw[if_neg]
  rintro⟨a,b⟩
  rcases h with h|h
  ·exact a h
  ·exact h b
 |n+1=>by
  rw[show List.replicate (n+1+1) v=List.replicate (n+1) v++[v]from List.replicate_succ',List.foldl_append,xQ R v h n]
  show gH (R++[(n+1,v)]) v=_
  unfold gH
  rw[if_pos (by simp[cM])]
  simp[cM]
theorem Az(l:List aq)(nn:Bool)(hl:l.length≤1000000000)(H:aa):ag Tryz.prog 165 [.d (.list nn (l.map aq.enc))] H (.ok (.d (.list false ((cZ l).map dc)))) H:=by
 have hone:∀R:List (Nat×aq),∀c∈R.map dc,c.length=4:=fun R c hc=>by obtain⟨u,_,rfl⟩:=List.mem_map.1 hc;rfl
 refine ag.aj (hint:=(fun _=>false)) Tryz.func165 (by kernel_rfl) rfl [2] (by kernel_rfl) (by decide) (by simp[Tryz.ntmps165]) ?_
 rw[Tryz.ntmps165]
 simp -implicitDefEqProofs only[go_sem]
 refine cl _ _ _ _ (fun(x:Nat) s H'=>∃R,R=cZ (l.take x)∧R.length≤x∧x≤l.length∧(∀h:x<l.length,R=[]∨(cM R).2≠l[x])∧H'=H++[.arr 216 4 R.length (R.map dc)]∧s 0= .d (.list nn (l.map aq.enc))∧s 3= .sl H.length R.length 0 R.length∧s 4=iA x) (fun x=>l.length-x) 0 (ay.db _ _ 3 216 4 (by decide) (by simp -implicitDefEqProofs only[↓reduceIte,go_sem,Nat.reduceLT,Nat.reduceEqDiff]) _) ?_ ?_
 ·refine⟨[],rfl,Nat.le_refl _,Nat.zero_le _,fun _=> .inl rfl,rfl,?_⟩
  simp -implicitDefEqProofs only[↓reduceIte,go_sem,Nat.reduceLT,Nat.reduceEqDiff,reduceCtorEq]
 ·rintro x s H' ⟨R,hR,hRl,hx,hne,rfl,t0,t3,t4⟩
  by_cases hxl:x<l.length
  ·have hne:=hne hxl
   have hgx:=List.getElem?_eq_getElem hxl
   obtain⟨v,hv⟩:∃v,v=l[x]:=⟨_,rfl⟩
   rw[←hv]at hne hgx
   simp -implicitDefEqProofs only[↓reduceIte,go_sem,Nat.reduceLT,Nat.reduceEqDiff,reduceCtorEq,t0,t4,List.length_map,eq_true hxl]
   refine cl _ _ _ _ (fun(y:Nat) s G=>G=H++[.arr 216 4 R.length (R.map dc)]∧x≤y∧y≤l.length∧l.take y=l.take x++List.replicate (y-x) v∧s 0= .d (.list nn (l.map aq.enc))∧s 3= .sl H.length R.length 0 R.length∧s 4=iA x∧s 5=iA y) (fun y=>l.length-y) x (ay.refl _ _) ?_ ?_
   ·refine⟨rfl,Nat.le_refl _,hx,by simp,?_⟩
    simp -implicitDefEqProofs only[↓reduceIte,go_sem,Nat.reduceLT,Nat.reduceEqDiff,reduceCtorEq,t0,t3,t4]
   ·rintro y s G ⟨rfl,hxy,hyl,htk,t0,t3,t4,t5⟩
    have wy:IntKind.i64.wrap ((y:Int)+1)=((y+1:Nat):Int):=by rw[wrap64_in _ (by omega) (by omega)];omega
    have stop:∀h:y=l.length∨∃h:y<l.length,l[y]≠v,x<y∧cZ (l.take y)=R++[(y-x,v)]:=by
     intro h
     have hxy2:x<y:=by
      rcases Nat.lt_or_ge x y with h2|h2
      ·exact h2
      ·obtain rfl:y=x:=by omega
       rcases h with h|⟨h,h3⟩
       ·omega
       ·exact absurd hv.symm h3
     refine⟨hxy2,?_⟩
     rw[htk]
     unfold cZ
     rw[List.foldl_append]
     show List.foldl gH (cZ (l.take x)) _=_
     rw[←hR]
     obtain⟨n,hn⟩:∃n,y-x=n+1:=⟨y-x-1,by omega⟩
     rw[hn]
     exact xQ R v hne n
    simp -implicitDefEqProofs only[go_sem]
    refine aO K.mixed (by kernel_rfl) ?_
    by_cases hy:y<l.length
    ·have hgy:=List.getElem?_eq_getElem hy
     by_cases hyv:l[y]=v
     ·rw[hyv]at hgy
      simp -implicitDefEqProofs only[↓reduceIte,go_sem,Nat.reduceAdd,Nat.reduceLT,Nat.reduceEqDiff,reduceCtorEq,t0,t4,t5,List.length_map,eq_true hy,hgx,hgy,aq.enc,fm,wy]
      refine⟨_,_,y+1,ay.refl _ _,⟨rfl,by omega,hy,?_,?_⟩,by omega⟩
      ·rw[List.take_succ_eq_append_getElem hy,htk,hyv,List.append_assoc,show y+1-x=(y-x)+1 by omega,List.replicate_succ']
      ·simp -implicitDefEqProofs only[↓reduceIte,go_sem,Nat.reduceLT,Nat.reduceEqDiff,reduceCtorEq,t0,t3,t4]
     ·obtain⟨hxy2,hst⟩:=stop (.inr ⟨hy,hyv⟩)
      have wyx:IntKind.i64.wrap ((y:Int)-(x:Int))=((y-x:Nat):Int):=by rw[wrap64_in _ (by omega) (by omega)];omega
      have hnx:∀h:y<l.length,R++[(y-x,v)]=[]∨(cM (R++[(y-x,v)])).2≠l[y]:=fun h=> .inr (by simp only[cM,List.getLast?_append,List.getLast?_singleton,Option.some_or,Option.getD_some];exact fun h3=>hyv h3.symm)
      have hRm:(R.map dc).length=R.length:=List.length_map ..
      generalize hu:l[y]=u at hyv hgy
      obtain⟨n,hn⟩:∃n,n=y-x:=⟨_,rfl⟩
      rw[←hn]at wyx hnx hst
      simp -implicitDefEqProofs only[↓reduceIte,go_sem,Nat.reduceAdd,Nat.reduceLT,Nat.reduceLeDiff,Nat.reduceEqDiff,reduceCtorEq,t0,t4,t5,List.length_map,eq_true hy,hgx,hgy,aq.enc,fm,hyv]
      simp -implicitDefEqProofs only[↓reduceIte,go_sem,Nat.reduceLT,Nat.reduceLeDiff,Nat.reduceEqDiff,t3,t5,wyx,hRm]
      refine⟨by omega,by omega,_,_,y,ay.refl _ _,⟨R++[(n,v)],hst.symm,by simp;omega,hyl,hnx,by simp[dc],?_⟩,by omega⟩
      simp -implicitDefEqProofs only[↓reduceIte,go_sem,Nat.reduceLT,Nat.reduceEqDiff,reduceCtorEq,t0,List.length_append]
    ·obtain rfl:y=l.length:=by omega
     obtain⟨hxy2,hst⟩:=stop (.inl rfl)
     have wyx:IntKind.i64.wrap ((l.length:Int)-(x:Int))=((l.length-x:Nat):Int):=by rw[wrap64_in _ (by omega) (by omega)];omega
     have hRm:(R.map dc).length=R.length:=List.length_map ..
     obtain⟨n,hn⟩:∃n,n=l.length-x:=⟨_,rfl⟩
     rw[←hn]at wyx hst
     simp -implicitDefEqProofs only[↓reduceIte,go_sem,Nat.reduceLT,Nat.reduceEqDiff,reduceCtorEq,t0,t4,t5,List.length_map,hgx]
     simp -implicitDefEqProofs only[↓reduceIte,go_sem,Nat.reduceAdd,Nat.reduceLT,Nat.reduceLeDiff,Nat.reduceEqDiff,t3,t5,wyx,aq.enc,hRm]
     refine⟨by omega,by omega,_,_,l.length,ay.refl _ _,⟨R++[(n,v)],hst.symm,by simp;omega,hyl,fun h=>by omega,by simp[dc],?_⟩,by omega⟩
     simp -implicitDefEqProofs only[↓reduceIte,go_sem,Nat.reduceLT,Nat.reduceEqDiff,reduceCtorEq,t0,List.length_append]
  ·obtain rfl:x=l.length:=by omega
   rw[List.take_length]at hR
   simp -implicitDefEqProofs only[↓reduceIte,go_sem,Nat.reduceLT,Nat.reduceEqDiff,reduceCtorEq,t0,t3,t4,List.length_map]
   refine aw.ret ?_
   simp -implicitDefEqProofs only[↓reduceIte,go_sem,Nat.reduceLT,bQ _ _ (show((cZ l).map dc).length=(cZ l).length from List.length_map ..),hR]
theorem xp(R:List (Nat×aq))(nn:Bool)(hl:R.length≤1000000)(hn:∀r∈R,r.1≤1000000000)(H:aa):ag Tryz.prog 162 [.d (.list nn (R.map dc))] H (.ok (.d (.list false ((cf R).map aq.enc)))) H:=by
 refine ag.aj (hint:=(fun _=>false)) Tryz.func162 (by kernel_rfl) rfl [2] (by kernel_rfl) (by decide) (by simp[Tryz.ntmps162]) ?_
 rw[Tryz.ntmps162]
 simp -implicitDefEqProofs only[go_sem]
 refine aP (fun k s H'=>H'=H++[.arr 25 3 (cf (R.take k)).length ((cf (R.take k)).map aq.enc)]∧s 0= .d (.list nn (R.map dc))∧s 3= .sl H.length (cf (R.take k)).length 0 (cf (R.take k)).length∧s 4=iA k) R.length (by omega) (ay.db _ _ 3 25 3 (by decide) (by simp -implicitDefEqProofs only[↓reduceIte,go_sem,Nat.reduceLT,Nat.reduceEqDiff]) _) ?_ ?_ ?_
 ·refine⟨rfl,?_⟩
  simp -implicitDefEqProofs only[↓reduceIte,go_sem,Nat.reduceLT,Nat.reduceEqDiff,reduceCtorEq]
  rfl
 ·rintro k s H' hk hw ⟨rfl,t0,t3,t4⟩
  have hx:=List.getElem?_eq_getElem hk
  have e1:cf (R.take (k+1))=cx (cf (R.take k)) R[k]:=by rw[List.take_succ_eq_append_getElem hk,o5]
  have hll:=nI (R.take k)
  have hnk:=hn _ (List.getElem_mem hk)
  rw[e1]
  generalize cf (R.take k)=L at*
  generalize R[k]=r at*
  obtain⟨n,v⟩:=r
  simp only at hnk hx
  have hst:cx L (n,v)=L++List.replicate (min n (4096-L.length)) v:=rfl
  rw[hst]
  simp -implicitDefEqProofs only[↓reduceIte,go_sem,Nat.reduceLT,Nat.reduceEqDiff,reduceCtorEq,t0,t4,List.length_map,hk]
  refine cl _ _ _ _ (fun(j:Nat) s G=>G=H++[.arr 25 3 (L++List.replicate j v).length ((L++List.replicate j v).map aq.enc)]∧j≤min n (4096-L.length)∧s 0= .d (.list nn (R.map dc))∧s 3= .sl H.length (L++List.replicate j v).length 0 (L++List.replicate j v).length∧s 4=iA k∧s 5=iA j) (fun j=>n-j) 0 (ay.refl _ _) ?_ ?_
  ·refine⟨by simp,by omega,?_⟩
   simp -implicitDefEqProofs only[↓reduceIte,go_sem,Nat.reduceLT,Nat.reduceEqDiff,reduceCtorEq,t0,t3,t4,List.append_nil,List.replicate_zero]
  ·rintro j s G ⟨rfl,hj,t0,t3,t4,t5⟩
   have wj:IntKind.i64.wrap ((j:Int)+1)=((j+1:Nat):Int):=by rw[wrap64_in _ (by omega) (by omega)];omega
   have hml:(L++List.replicate j v).length=L.length+j:=by simp
   have hmm:((L++List.replicate j v).map aq.enc).length=L.length+j:=by simp
   have hsn:L++List.replicate j v++[v]=L++List.replicate (j+1) v:=by rw[List.append_assoc,List.replicate_succ']
   have hone:∀c∈(L++List.replicate j v).map aq.enc,c.length=3:=fun c hc=>by obtain⟨u,_,rfl⟩:=List.mem_map.1 hc;rfl
   rw[hml]at t3⊢
   obtain⟨M,hM⟩:∃M,M=L++List.replicate j v:=⟨_,rfl⟩
   rw[←hM]at hmm hsn hone⊢
   obtain⟨q,hq⟩:∃q,q=L.length+j:=⟨_,rfl⟩
   rw[←hq]at t3 hmm⊢
   by_cases h1:j<n
   ·by_cases h2:q<4096
    ·simp -implicitDefEqProofs only[↓reduceIte,go_sem,Nat.reduceAdd,Nat.reduceLT,Nat.reduceLeDiff,Nat.reduceEqDiff,reduceCtorEq,t0,t3,t4,t5,hx,dc,hmm,show((j:Int)<(n:Int))=True from eq_true (by omega),show((q:Int)<4096)=True from eq_true (by omega)]
     simp -implicitDefEqProofs only[go_sem,wj]
     refine⟨by omega,by omega,_,_,j+1,ay.refl _ _,⟨?_,by omega,?_⟩,by omega⟩
     ·rw[←hsn,List.map_append,List.length_replicate,show L.length+(j+1)=q+1 by omega]
      rfl
     ·simp -implicitDefEqProofs only[↓reduceIte,go_sem,Nat.reduceLT,Nat.reduceEqDiff,reduceCtorEq,t0,t4,List.length_replicate,show L.length+(j+1)=q+1 by omega]
    ·have hw4:IntKind.i64.wrap ((k:Int)+1)=(k:Int)+1:=hw
     simp -implicitDefEqProofs only[↓reduceIte,go_sem,Nat.reduceAdd,Nat.reduceLT,Nat.reduceLeDiff,Nat.reduceEqDiff,reduceCtorEq,t0,t3,t4,t5,hx,dc,hw4,show((j:Int)<(n:Int))=True from eq_true (by omega),show((q:Int)<4096)=False from eq_false (by omega)]
     obtain rfl:j=min n (4096-L.length):=by omega
     refine c9.same ⟨by rw[List.length_replicate,←hq,hM],?_⟩
     simp -implicitDefEqProofs only[↓reduceIte,go_sem,Nat.reduceLT,Nat.reduceEqDiff,reduceCtorEq,t0,t3,List.length_replicate,←hq]
   ·simp -implicitDefEqProofs only[↓reduceIte,go_sem,Nat.reduceAdd,Nat.reduceLT,Nat.reduceLeDiff,Nat.reduceEqDiff,reduceCtorEq,t0,t4,t5,hx,dc,hw,show((j:Int)<(n:Int))=False from eq_false (by omega)]
    obtain rfl:j=min n (4096-L.length):=by omega
    refine c9.same ⟨by rw[List.length_replicate,←hq,hM],?_⟩
    simp -implicitDefEqProofs only[↓reduceIte,go_sem,Nat.reduceLT,Nat.reduceEqDiff,reduceCtorEq,t0,t3,List.length_replicate,←hq]
 ·rintro s H' ⟨rfl,t0,t3,t4⟩
  rw[List.take_length]at*
  simp -implicitDefEqProofs only[↓reduceIte,go_sem,Nat.reduceLT,Nat.reduceEqDiff,reduceCtorEq,t0,t3,t4,List.length_map]
  refine aw.ret ?_
  simp -implicitDefEqProofs only[↓reduceIte,go_sem,Nat.reduceLT,bQ _ _ (show((cf R).map aq.enc).length=(cf R).length from List.length_map ..)]
theorem tA(l:List aq)(k:Int)(nn:Bool)(hok:∀v∈l,eJ v.i)(H:aa)(hl:l.length≤1000000000):
  ag Tryz.prog 137 [.d (.list nn (l.map aq.enc)),iA k] H (.ok (.bz [.d (.list false (aD (qQ l k))),iA (aS l k)])) H:=by
 by_cases hp:aS l k=0
 ·rw[show qQ l k=eC (cZ l)from if_pos hp]
  have hmay:=eu hp
  have h4:=dO hp
  have hrd:=fun H=>Az l nn hl H
  have hRl:=ka l l.length
  have hRc:=kr l l.length
  rw[List.take_length]at hRl hRc
  have hRv:=mL (p:=fun v=>eJ v.i∧cA v=true) (l:=l) fun v hv=>⟨hok v hv,hmay v hv⟩
  generalize cZ l=R at*
  have hone:∀r∈R,(kd r).length≤1050:=fun r hr=>by
   have h1:=bD 10 r.1 (by have:=hRc r hr;omega)
   have h2:=dk (hRv r hr).1 (hRv r hr).2
   unfold kd
   rw[List.length_append];omega
  have hWb:∀k,k≤R.length→(eC (R.take k)).length≤k* 1050:=by
   intro k
   induction k with
   |zero=>intro _;simp[eC]
   |succ k ih=>
    intro hk
    have hk':k<R.length:=by omega
    rw[List.take_succ_eq_append_getElem hk',mE,List.length_append]
    have h1:=ih (by omega)
    have h2:=hone _ (List.getElem_mem hk')
    omega
  refine ag.aj (hint:=(fun _=>false)) Tryz.func137 (by kernel_rfl) rfl [4,5] (by kernel_rfl) (by decide) (by simp[Tryz.ntmps137]) ?_
  rw[Tryz.ntmps137]
  simp -implicitDefEqProofs only[↓reduceIte,go_sem,Nat.reduceLT,Nat.reduceEqDiff,reduceCtorEq]
  refine ae.ok (dT l k nn _ (by omega)) ?_
  rw[hp]
  simp -implicitDefEqProofs only[↓reduceIte,go_sem,Nat.reduceLT,reduceCtorEq]
  refine ae.ok (hrd _) ?_
  simp -implicitDefEqProofs only[↓reduceIte,go_sem,Nat.reduceLT]
  refine aP (fun j s H'=>∃ver,H'=H++[.arr 5 1 ver (aD (eC (R.take j)))]∧s 7= .sl H.length ver 0 (eC (R.take j)).length∧s 8= .d (.list false (R.map dc))∧s 9=iA j) R.length (by omega) (ay.db _ _ 7 5 1 (by decide) (by simp -implicitDefEqProofs only[↓reduceIte,go_sem,Nat.reduceLT,Nat.reduceEqDiff]) _) ?_ ?_ ?_
  ·refine⟨0,rfl,?_⟩
   simp -implicitDefEqProofs only[↓reduceIte,go_sem,Nat.reduceLT,Nat.reduceEqDiff]
   rfl
  ·rintro j s H' hj hw ⟨ver,rfl,t7,t8,t9⟩
   have hx:=List.getElem?_eq_getElem hj
   have hm:=List.getElem_mem hj
   have hb:=hWb j (by omega)
   have hrl:=hone _ hm
   have hc:=hRc _ hm
   have e1:eC (R.take (j+1))=eC (R.take j)++kd R[j]:=by rw[List.take_succ_eq_append_getElem hj,mE]
   have hvd:=fun H=>fB R[j].2 (hRv _ hm).1 (hRv _ hm).2 H
   have hpd:=fun H=>mI R[j].1 (by omega) H
   rw[e1]
   generalize eC (R.take j)=B at*
   generalize R[j]=r at*
   obtain⟨n,w⟩:=r
   simp only at hvd hpd hc
   have hrb:kd (n,w)=bp n++cW w:=rfl
   rw[hrb]at hrl⊢
   rw[List.length_append]at hrl
   have wn:IntKind.u64.wrap (n:Int)=(n:Int):=aK _ (by omega)
   generalize bp n=p at*
   generalize cW w=y at*
   simp -implicitDefEqProofs only[↓reduceIte,go_sem,Nat.reduceAdd,Nat.reduceLT,Nat.reduceLeDiff,Nat.reduceEqDiff,t8,t9,hj,List.length_map,hx,dc]
   refine ae.ok (hvd _) ?_
   simp -implicitDefEqProofs only[↓reduceIte,go_sem,Nat.reduceAdd,Nat.reduceLT,Nat.reduceLeDiff,Nat.reduceEqDiff,t7,t8,t9,hx,dc,wn]
   refine ae.ok (hpd _) ?_
   simp -implicitDefEqProofs only[↓reduceIte,go_sem,Nat.reduceLT,Nat.reduceEqDiff,t9,aL,ai,dh,hw]
   refine⟨by omega,by omega,?_⟩
   refine⟨by omega,by omega,?_⟩
   refine c9.same ⟨ver+1+1,by simp -implicitDefEqProofs only[go_sem],?_⟩
   simp -implicitDefEqProofs only[↓reduceIte,go_sem,Nat.reduceAdd,Nat.reduceLT,Nat.reduceEqDiff,t8,Nat.add_assoc]
  ·rintro s H' ⟨ver,rfl,t7,t8,t9⟩
   rw[show R.take R.length=R from List.take_length]at*
   simp -implicitDefEqProofs only[↓reduceIte,go_sem,Nat.reduceLT,Nat.reduceEqDiff,t7,t8,t9,List.length_map]
   refine aw.ret ?_
   simp -implicitDefEqProofs only[↓reduceIte,go_sem,Nat.reduceLT,Nat.reduceEqDiff,List.take_of_length_le (Nat.le_of_eq (ai (eC R)))]
 ·rw[show qQ l k=[]from if_neg hp]
  refine ag.bE (cs:=[.d (.v (.slice none 0 0)),iA (aS l k)]) ?_ (.cons .nil (.cons (.refl _) .nil))
  refine ag.aj (hint:=(fun _=>false)) Tryz.func137 (by kernel_rfl) rfl [4,5] (by kernel_rfl) (by decide) (by simp[Tryz.ntmps137]) ?_
  rw[Tryz.ntmps137]
  simp -implicitDefEqProofs only[↓reduceIte,go_sem,Nat.reduceLT,Nat.reduceEqDiff,reduceCtorEq]
  refine ae.ok (dT l k nn _ (by omega)) ?_
  simp -implicitDefEqProofs only[↓reduceIte,go_sem,Nat.reduceLT,Nat.reduceEqDiff,hp]
  refine aw.aI ?_
  simp -implicitDefEqProofs only[↓reduceIte,go_sem,Nat.reduceLT,Nat.reduceEqDiff]
theorem xd(b:List Nat)(n k:Int)(hl:b.length≤140737488351232)(hb:∀c∈b,c<256)(H:aa):
  ag Tryz.prog 161 [.d (.list false (aD b)),iA n,iA k] H (.ok (.bz [.d (.list false ((cU b n k).1.map dc)),iA (cU b n k).2])) H:=by
 have hkd:=fun H=>c7 k H
 by_cases hk:bJ k=false
 ·rw[show cU b n k=([],1)from if_pos hk]
  refine ag.bE (cs:=[.d (.v (.slice none 0 0)),iA 1]) ?_ (.cons .nil (.cons (.refl _) .nil))
  refine ag.aj (hint:=(fun _=>false)) Tryz.func161 (by kernel_rfl) rfl [6,7] (by kernel_rfl) (by decide) (by simp[Tryz.ntmps161]) ?_
  rw[Tryz.ntmps161]
  simp -implicitDefEqProofs only[↓reduceIte,go_sem,Nat.reduceLT,Nat.reduceEqDiff]
  refine ae.ok (hkd _) ?_
  simp -implicitDefEqProofs only[↓reduceIte,go_sem,Nat.reduceLT,hk]
  refine aw.aI ?_
  simp -implicitDefEqProofs only[↓reduceIte,go_sem,Nat.reduceLT,Nat.reduceEqDiff]
 rw[show cU b n k=_ from if_neg hk]
 have hk1:bJ k=true:=by simpa using hk
 by_cases h1:n<0
 ·rw[if_pos h1]
  refine ag.bE (cs:=[.d (.v (.slice none 0 0)),iA 2]) ?_ (.cons .nil (.cons (.refl _) .nil))
  refine ag.aj (hint:=(fun _=>false)) Tryz.func161 (by kernel_rfl) rfl [6,7] (by kernel_rfl) (by decide) (by simp[Tryz.ntmps161]) ?_
  rw[Tryz.ntmps161]
  simp -implicitDefEqProofs only[↓reduceIte,go_sem,Nat.reduceLT,Nat.reduceEqDiff]
  refine ae.ok (hkd _) ?_
  simp -implicitDefEqProofs only[↓reduceIte,go_sem,Nat.reduceLT,Nat.reduceEqDiff,hk1,h1]
  refine aw.aI ?_
  simp -implicitDefEqProofs only[↓reduceIte,go_sem,Nat.reduceLT,Nat.reduceEqDiff]
 rw[if_neg h1]
 by_cases h2:4096<n
 ·rw[if_pos h2]
  refine ag.bE (cs:=[.d (.v (.slice none 0 0)),iA 2]) ?_ (.cons .nil (.cons (.refl _) .nil))
  refine ag.aj (hint:=(fun _=>false)) Tryz.func161 (by kernel_rfl) rfl [6,7] (by kernel_rfl) (by decide) (by simp[Tryz.ntmps161]) ?_
  rw[Tryz.ntmps161]
  simp -implicitDefEqProofs only[↓reduceIte,go_sem,Nat.reduceLT,Nat.reduceEqDiff]
  refine ae.ok (hkd _) ?_
  simp -implicitDefEqProofs only[↓reduceIte,go_sem,Nat.reduceLT,Nat.reduceEqDiff,reduceCtorEq,hk1,h1,h2]
  refine aw.aI ?_
  simp -implicitDefEqProofs only[↓reduceIte,go_sem,Nat.reduceLT,Nat.reduceEqDiff]
 rw[if_neg h2]
 obtain⟨m,rfl⟩:∃m:Nat,n=(m:Int):=⟨n.toNat,by omega⟩
 rw[Int.toNat_natCast]
 have h1f:((m:Int)<0)=False:=eq_false h1
 have h2f:((4096:Int)<(m:Int))=False:=eq_false h2
 obtain⟨q,hq⟩:∃q,q=rq k m [] m b:=⟨_,rfl⟩
 rw[←hq]
 suffices h:ag Tryz.prog 161 [.d (.list false (aD b)),iA m,iA k] H (.ok (if q.2.2≠0 then .bz [.d (.v (.slice none 0 0)),iA q.2.2]else if q.2.1≠[]then .bz [.d (.v (.slice none 0 0)),iA 4]else .bz [.d (.list false (q.1.map dc)),iA 0])) H by
  by_cases c1:q.2.2≠0
  ·rw[if_pos c1]at h⊢
   exact ag.bE h (.cons .nil (.cons (.refl _) .nil))
  ·rw[if_neg c1]at h⊢
   by_cases c2:q.2.1≠[]
   ·rw[if_pos c2]at h⊢
    exact ag.bE h (.cons .nil (.cons (.refl _) .nil))
   ·rw[if_neg c2]at h⊢
    exact h
 refine ag.aj (hint:=(fun _=>false)) Tryz.func161 (by kernel_rfl) rfl [6,7] (by kernel_rfl) (by decide) (by simp[Tryz.ntmps161]) ?_
 rw[Tryz.ntmps161]
 simp -implicitDefEqProofs only[↓reduceIte,go_sem,Nat.reduceLT,Nat.reduceEqDiff]
 refine ae.ok (hkd _) ?_
 simp -implicitDefEqProofs only[↓reduceIte,go_sem,Nat.reduceLT,Nat.reduceEqDiff,reduceCtorEq,hk1,h1f,h2f]
 refine cl _ _ _ _ (fun(x:Nat×List (Nat×aq)×Nat×List Nat) s H'=>H'=H++[.arr 216 4 x.2.1.length (x.2.1.map dc)]∧rq k x.1 x.2.1 x.2.2.1 x.2.2.2=q∧x.2.2.1≤x.1∧x.2.1.length+x.1≤4096∧x.2.2.2.length≤b.length∧(∀y∈x.2.2.2,y<256)∧s 0= .d (.list false (aD x.2.2.2))∧s 2=iA k∧s 8= .sl H.length x.2.1.length 0 x.2.1.length∧s 9=iA x.2.2.1) (fun x=>x.2.2.1) (m,[],m,b) (ay.db _ _ 8 216 4 (by decide) (by simp -implicitDefEqProofs only[↓reduceIte,go_sem,Nat.reduceLT,Nat.reduceEqDiff]) _) ?_ ?_
 ·refine⟨rfl,hq.symm,Nat.le_refl _,by simp;omega,Nat.le_refl _,hb,?_⟩
  simp -implicitDefEqProofs only[↓reduceIte,go_sem,Nat.reduceLT,Nat.reduceEqDiff,reduceCtorEq,List.length_nil]
 ·rintro⟨f,R,n,c⟩ s H' ⟨rfl,hT,hnf,hRf,hcl,hcb,t0,t2,t8,t9⟩
  simp only at hT hnf hRf hcl hcb t0 t8 t9⊢
  by_cases hn0:n=0
  ·subst hn0
   have hq2:q=(R,c,0):=by rw[←hT];cases f<;>simp[rq]
   rw[hq2]
   by_cases hc:c=[]
   ·subst hc
    simp -implicitDefEqProofs only[↓reduceIte,go_sem,Nat.reduceLT,Nat.reduceEqDiff,Int.reduceLT,reduceCtorEq,t0,t8,t9,ai,List.length_nil]
    refine aw.ret ?_
    simp -implicitDefEqProofs only[↓reduceIte,go_sem,Nat.reduceLT,Nat.reduceEqDiff,ne_eq,not_true_eq_false,List.take_of_length_le (show(R.map dc).length≤R.length by rw[List.length_map];exact Nat.le_refl _)]
   ·have hcp:=List.length_pos_iff.2 hc
    simp -implicitDefEqProofs only[↓reduceIte,go_sem,Nat.reduceLT,Int.reduceLT,reduceCtorEq,t0,t9,ai,show((c.length:Int)=0)=False from eq_false (by omega)]
    refine aw.ret ?_
    simp -implicitDefEqProofs only[↓reduceIte,go_sem,Nat.reduceLT,Nat.reduceEqDiff,ne_eq,hc,not_true_eq_false,not_false_eq_true]
  ·obtain⟨f,rfl⟩:∃g,f=g+1:=⟨f-1,by omega⟩
   have hgd:=fun H=>fx c false (by omega) hcb H
   have hgl:=eO c
   have hod:=fun H=>mz (c.drop (aQ c).2.1) k (by rw[List.length_drop];omega) (fun x hx=>hcb x (List.mem_of_mem_drop hx)) H
   have hnk:=fun q r=>oD (b:=c) (n:=n) (k:=k) (q:=q) (r:=r)
   have hTe:rq k (f+1) R n c=if n=0 then(R,c,0)else if(dS c n k).2.2≠0 then([],[],(dS c n k).2.2)else if R≠[]∧(cM R).2=(dS c n k).1.2 then([],[],4)else rq k f (R++[(dS c n k).1]) (n-(dS c n k).1.1) (dS c n k).2.1:=rfl
   rw[hTe,if_neg hn0]at hT
   clear hTe
   have hN:dS c n k=if(aQ c).2.2≠0 then(zR,[],(aQ c).2.2)else if(aQ c).1=0∨n<(aQ c).1 then(zR,[],4)else if(ej (c.drop (aQ c).2.1) k).2.2≠0 then(zR,[],(ej (c.drop (aQ c).2.1) k).2.2)else(((aQ c).1,(ej (c.drop (aQ c).2.1) k).1),(ej (c.drop (aQ c).2.1) k).2.1,0):=rfl
   have hgt:=fh c
   have hdk:List.drop (aQ c).2.1 (aD c)=aD (c.drop (aQ c).2.1):=by unfold aD;rw[List.map_drop]
   generalize aQ c=g at*
   obtain⟨rn,gk,ge⟩:=g
   simp only at hgd hgl hod hN hgt hdk
   generalize ej (c.drop gk) k=o at*
   obtain⟨v,r,oe⟩:=o
   simp only at hod hN
   have n0:(0<(n:Int))=True:=eq_true (by omega)
   by_cases c1:ge≠0
   ·rw[if_pos c1]at hN
    rw[hN,if_pos c1]at hT
    subst hT
    simp -implicitDefEqProofs only[↓reduceIte,go_sem,Nat.reduceLT,reduceCtorEq,t0,t9,n0]
    refine ae.ok (hgd _) ?_
    simp -implicitDefEqProofs only[↓reduceIte,go_sem,Nat.reduceLT,Nat.reduceEqDiff,c1]
    refine aw.ret ?_
    simp -implicitDefEqProofs only[↓reduceIte,go_sem,Nat.reduceLT,Nat.reduceEqDiff,ne_eq,c1,not_false_eq_true]
   rw[if_neg c1]at hN
   obtain rfl:ge=0:=by simpa using c1
   have wn:IntKind.u64.wrap (n:Int)=(n:Int):=aK _ (by omega)
   by_cases c2:rn=0∨n<rn
   ·rw[if_pos c2]at hN
    rw[hN,if_pos (by simp)]at hT
    subst hT
    by_cases c3:rn=0
    ·subst c3
     simp -implicitDefEqProofs only[↓reduceIte,go_sem,Nat.reduceLT,reduceCtorEq,t0,t9,n0]
     refine ae.ok (hgd _) ?_
     simp -implicitDefEqProofs only[↓reduceIte,go_sem,Nat.reduceLT,Nat.reduceEqDiff]
     refine aw.ret ?_
     simp -implicitDefEqProofs only[↓reduceIte,go_sem,Nat.reduceLT,Nat.reduceEqDiff,Int.reduceEq,ne_eq,not_false_eq_true]
    ·simp -implicitDefEqProofs only[↓reduceIte,go_sem,Nat.reduceLT,reduceCtorEq,t0,t9,n0]
     refine ae.ok (hgd _) ?_
     simp -implicitDefEqProofs only[↓reduceIte,go_sem,Nat.reduceLT,Nat.reduceEqDiff,reduceCtorEq,t9,wn,show((rn:Int)=0)=False from eq_false (by omega),show((n:Int)<(rn:Int))=True from eq_true (by omega)]
     refine aw.ret ?_
     simp -implicitDefEqProofs only[↓reduceIte,go_sem,Nat.reduceLT,Nat.reduceEqDiff,Int.reduceEq,ne_eq,not_false_eq_true]
   rw[if_neg c2]at hN
   have c3:((rn:Int)=0)=False:=eq_false (by omega)
   have c4:((n:Int)<(rn:Int))=False:=eq_false (by omega)
   by_cases c5:oe≠0
   ·rw[if_pos c5]at hN
    rw[hN,if_pos c5]at hT
    subst hT
    simp -implicitDefEqProofs only[↓reduceIte,go_sem,Nat.reduceLT,reduceCtorEq,t0,t9,n0]
    refine ae.ok (hgd _) ?_
    simp -implicitDefEqProofs only[↓reduceIte,go_sem,Nat.reduceLT,Nat.reduceEqDiff,reduceCtorEq,t0,t2,t9,wn,c3,c4,ai,aL,bQ _ _ (ai c),hdk]
    refine⟨hgl,?_⟩
    refine ae.ok (hod _) ?_
    simp -implicitDefEqProofs only[↓reduceIte,go_sem,au,Nat.reduceAdd,Nat.reduceLT,Nat.reduceEqDiff,c5]
    refine aw.ret ?_
    simp -implicitDefEqProofs only[↓reduceIte,go_sem,Nat.reduceLT,Nat.reduceEqDiff,ne_eq,c5,not_false_eq_true]
   rw[if_neg c5]at hN
   obtain rfl:oe=0:=by simpa using c5
   obtain⟨g1,g2,p,g3⟩:=hnk _ _ hN
   rw[hN,if_neg (by simp)]at hT
   simp only at hT g1 g2 g3
   have hrl:r.length≤b.length:=by rw[g3,List.length_drop];omega
   have hrb:∀y∈r,y<256:=fun y hy=>hcb y (by rw[g3]at hy;exact List.mem_of_mem_drop hy)
   have hw:IntKind.i64.wrap ((n:Int)-(rn:Int))=((n-rn:Nat):Int):=by rw[wrap64_in _ (by omega) (by omega)];omega
   have hwr:IntKind.i64.wrap (rn:Int)=(rn:Int):=wrap64_in _ (by omega) (by omega)
   have hRm:(R.map dc).length=R.length:=List.length_map ..
   simp -implicitDefEqProofs only[↓reduceIte,go_sem,Nat.reduceLT,reduceCtorEq,t0,t9,n0]
   refine ae.ok (hgd _) ?_
   simp -implicitDefEqProofs only[↓reduceIte,go_sem,Nat.reduceLT,Nat.reduceEqDiff,reduceCtorEq,t0,t2,t9,wn,c3,c4,ai,aL,bQ _ _ (ai c),hdk]
   refine⟨hgl,?_⟩
   refine ae.ok (hod _) ?_
   simp -implicitDefEqProofs only[↓reduceIte,go_sem,au,Nat.reduceAdd,Nat.reduceLT,Nat.reduceEqDiff]
   by_cases hR0:R=[]
   ·subst hR0
    rw[if_neg (by simp)]at hT
    refine aO K.mixed (by kernel_rfl) ?_
    simp -implicitDefEqProofs only[↓reduceIte,go_sem,ah,Nat.reduceAdd,Nat.reduceLT,Nat.reduceLeDiff,Nat.reduceEqDiff,Int.reduceLT,reduceCtorEq,t8,t9,List.length_nil,hwr,hw]
    refine⟨_,_,(f,[(rn,v)],n-rn,r),ay.cut [.arr 216 4 1 [[.v (.int .i64 rn),.v (.int .i64 v.kind),.v (.int .i64 v.i),.v (.string v.s)]]] [.box 25 3 0 1 [iA v.kind,iA v.i,sA v.s]] 1 rfl _ (by simp -implicitDefEqProofs only[go_sem]),⟨rfl,hT,by simp only;omega,by simp only[List.length_singleton]at*;simp only[List.length_nil]at hRf;omega,hrl,hrb,?_⟩,by simp only;omega⟩
    simp -implicitDefEqProofs only[↓reduceIte,go_sem,Nat.reduceLT,Nat.reduceEqDiff,reduceCtorEq,t2,List.length_singleton]
   ·obtain⟨R0,z,hR1⟩:∃R0 z,R=R0++[z]:=⟨R.dropLast,R.getLast hR0,(List.dropLast_concat_getLast hR0).symm⟩
    have hlz:cM R=z:=by rw[hR1];simp[cM]
    rw[hlz]at hT
    have hgz:(R.map dc)[R0.length]?=some (dc z):=by rw[hR1];simp
    have hRl1:R.length=R0.length+1:=by rw[hR1];simp
    clear hR1 hlz
    have wl:IntKind.i64.wrap ((R.length:Int)-1)=(R0.length:Int):=by rw[wrap64_in _ (by omega) (by omega)];omega
    have p1:(0<(R.length:Int))=True:=eq_true (by omega)
    have p2:((R0.length:Int)<(R.length:Int))=True:=eq_true (by omega)
    have p3:R0.length<R.length:=by omega
    generalize R0.length=j at*
    obtain⟨zn,zv⟩:=z
    simp only[dc]at hgz
    refine aO K.mixed (by kernel_rfl) ?_
    by_cases h2:zv=v
    ·rw[if_pos ⟨hR0,h2⟩]at hT
     subst hT
     simp -implicitDefEqProofs only[↓reduceIte,go_sem,ah,Nat.reduceAdd,Nat.reduceLT,Nat.reduceEqDiff,t8,p1,p2,wl,hgz,fm,h2]
     refine aw.ret ?_
     simp -implicitDefEqProofs only[↓reduceIte,go_sem,Nat.reduceLT,Nat.reduceEqDiff,Int.reduceEq,ne_eq,not_false_eq_true]
    ·rw[if_neg (fun h=>h2 h.2)]at hT
     have hsn:R.map dc++[[D.v (.int .i64 rn),.v (.int .i64 v.kind),.v (.int .i64 v.i),.v (.string v.s)]]=(R++[(rn,v)]).map dc:=by simp[dc]
     have hln:(R++[(rn,v)]).length=R.length+1:=by simp
     simp -implicitDefEqProofs only[↓reduceIte,go_sem,ah,Nat.reduceAdd,Nat.reduceLT,Nat.reduceLeDiff,Nat.reduceEqDiff,t8,t9,p1,p2,wl,hgz,hRm,fm,h2]
     simp -implicitDefEqProofs only[go_sem,hwr,hw]
     refine⟨by omega,by omega,_,_,(f,R++[(rn,v)],n-rn,r),ay.cut [.arr 216 4 (R.length+1) (R.map dc++[[.v (.int .i64 rn),.v (.int .i64 v.kind),.v (.int .i64 v.i),.v (.string v.s)]])] [.box 25 3 0 1 [iA v.kind,iA v.i,sA v.s]] 1 rfl _ (by simp -implicitDefEqProofs only[go_sem]),⟨by simp only[hsn,hln],hT,by simp only;omega,by simp only[hln];omega,hrl,hrb,?_⟩,by simp only;omega⟩
     simp -implicitDefEqProofs only[↓reduceIte,go_sem,Nat.reduceLT,Nat.reduceEqDiff,reduceCtorEq,t2,hln]
theorem Ad(b:List Nat)(n k:Int)(hl:b.length≤140737488351232)(hb:∀c∈b,c<256)(H:aa):
  ag Tryz.prog 132 [.d (.list false (aD b)),iA n,iA k] H (.ok (.bz [.d (.list false ((fU b n k).1.map aq.enc)),iA (fU b n k).2])) H:=by
 have hr:=fun H=>xd b n k hl hb H
 have hle:=vl b n k
 have hn:∀q,q=cU b n k→q.2≠0→q.1=[]:=by
  rintro q hq h
  unfold cU at hq
  split at hq
  ·rw[hq]
  split at hq
  ·rw[hq]
  split at hq
  ·rw[hq]
  split at hq
  ·rw[hq]
  split at hq
  ·rw[hq]
  ·rw[hq]at h;exact absurd rfl h
 have hR:fU b n k=(cf (cU b n k).1,(cU b n k).2):=by
  unfold fU
  by_cases h:(cU b n k).2≠0
  ·rw[if_pos h,hn _ rfl h];rfl
  ·rw[if_neg h,show(cU b n k).2=0 by simpa using h]
 rw[hR]
 generalize cU b n k=q at*
 obtain⟨R,e⟩:=q
 simp only at hr hle⊢
 have hs:=fun H=>xp R false (by omega) (fun r hr=>by have:=hle.2 r hr;omega) H
 refine ag.aj (hint:=(fun _=>false)) Tryz.func132 (by kernel_rfl) rfl [6,7] (by kernel_rfl) (by decide) (by simp[Tryz.ntmps132]) ?_
 rw[Tryz.ntmps132]
 simp -implicitDefEqProofs only[↓reduceIte,go_sem,Nat.reduceLT,Nat.reduceEqDiff,reduceCtorEq]
 refine ae.ok (hr _) ?_
 simp -implicitDefEqProofs only[↓reduceIte,go_sem,Nat.reduceLT,Nat.reduceEqDiff]
 refine ae.ok (hs _) ?_
 simp -implicitDefEqProofs only[↓reduceIte,go_sem,Nat.reduceLT,Nat.reduceEqDiff]
 refine aw.aI ?_
 simp -implicitDefEqProofs only[↓reduceIte,go_sem,Nat.reduceLT,Nat.reduceEqDiff]
theorem aq.OV{v:aq}(h:v.Ok):v.s.size≤9223372036854775807:=by have:=h.s;omega
theorem qP(l:List aq)(k:Int)(hls:∀v∈l,v.Ok)(H:aa)(hl:l.length≤1000000000):
  ag Tryz.prog 138 [.d (.list false (l.map aq.enc)),iA k] H (.ok (.bz [.d (.list false (aD (ju l k))),iA (aS l k)])) H:=by
 have hok:∀v∈l,eJ v.i:=fun v hv=>(hls v hv).i
 have hss:∀v∈l,v.s.size≤9223372036854775807:=fun v hv=>aq.OV (hls v hv)
 by_cases hp:aS l k=0
 ·have hd:ju l k=fY l:=by unfold ju;rw[if_pos hp]
  have hmay:=eu hp
  have h4:=dO hp
  have hwl:=kv l
  have hW:∀w∈a7 aM l,w∈l:=fun w hw=>eU aG hw
  have hcf:=pH (l:=l)
  have hcd:=fun H=>wG (a7 aM l) l false false H (by omega) (by omega) fun k hk=>hss k (hW k hk)
  have hwd:=fun H=>oR l false hl hss H
  rw[pa]at hcd
  have hB:fY l=bp (a7 aM l).length++aY (a7 aM l)++cF (l.map (eL l)) (dJ (a7 aM l).length):=rfl
  have hcl:(l.map (eL l)).length=l.length:=by simp
  rw[hd,hp]
  generalize l.map (eL l)=C at*
  generalize a7 aM l=W at*
  have hwid:=og (n:=W.length) (by omega)
  have l1:=bD 10 W.length (by omega)
  have hC64:∀n∈C,n<18446744073709551616:=fun n hn=>by
   have:=hcf n hn
   have:2^dJ W.length≤2^64:=Nat.pow_le_pow_right (by decide) (by omega)
   omega
  have hWb:∀k,k≤W.length→(aY (W.take k)).length≤k* 1035:=by
   intro k
   induction k with
   |zero=>intro _;simp[aY]
   |succ k ih=>
    intro hk
    have hk':k<W.length:=by omega
    rw[List.take_succ_eq_append_getElem hk',fG,List.length_append]
    have h1:=ih (by omega)
    have hm:=hW _ (List.getElem_mem hk')
    have h2:=dk (hok _ hm) (hmay _ hm)
    omega
  refine ag.aj (hint:=(fun _=>false)) Tryz.func138 (by kernel_rfl) rfl [4,5] (by kernel_rfl) (by decide) (by simp[Tryz.ntmps138]) ?_
  rw[Tryz.ntmps138]
  simp -implicitDefEqProofs only[↓reduceIte,go_sem,Nat.reduceLT,Nat.reduceEqDiff,reduceCtorEq]
  refine ae.ok (dT l k false _ (by omega)) ?_
  rw[hp]
  simp -implicitDefEqProofs only[↓reduceIte,go_sem,Nat.reduceLT,reduceCtorEq]
  refine ae.ok (hwd _) ?_
  simp -implicitDefEqProofs only[↓reduceIte,go_sem,Nat.reduceLT,List.length_map,aK W.length (by omega)]
  refine ae.ok (gK W.length (by omega) _) ?_
  simp -implicitDefEqProofs only[↓reduceIte,go_sem,Nat.reduceLT]
  refine aP (fun j s H'=>∃ver,H'=H++[.arr 5 1 ver (aD (bp W.length++aY (W.take j)))]∧s 0= .d (.list false (l.map aq.enc))∧s 7= .d (.list false (W.map aq.enc))∧s 8= .sl H.length ver 0 (bp W.length++aY (W.take j)).length∧s 9=iA j) W.length (by omega) (ay.refl _ _) ?_ ?_ ?_
  ·refine⟨(bp W.length).length,?_,?_⟩
   ·rw[show aY (W.take 0)=[]from rfl,List.append_nil]
   ·rw[show aY (W.take 0)=[]from rfl,List.append_nil]
    simp -implicitDefEqProofs only[↓reduceIte,go_sem,Nat.reduceLT,Nat.reduceEqDiff,reduceCtorEq]
  ·rintro j s H' hj hw ⟨ver,rfl,t0,t7,t8,t9⟩
   have hx:=List.getElem?_eq_getElem hj
   have hm:=hW _ (List.getElem_mem hj)
   have hb:=hWb j (by omega)
   have hvl:=dk (hok _ hm) (hmay _ hm)
   have e1:bp W.length++aY (W.take (j+1))=(bp W.length++aY (W.take j))++cW W[j]:=by rw[List.take_succ_eq_append_getElem hj,fG,List.append_assoc]
   have hvd:=fun H=>fB W[j] (hok _ hm) (hmay _ hm) H
   rw[e1]
   have hBl:(bp W.length++aY (W.take j)).length≤11+j* 1035:=by rw[List.length_append];omega
   generalize bp W.length++aY (W.take j)=B at*
   generalize W[j]=w at*
   simp -implicitDefEqProofs only[↓reduceIte,go_sem,Nat.reduceAdd,Nat.reduceLT,Nat.reduceEqDiff,t7,t9,hj,List.length_map,hx,aq.enc]
   refine ae.ok (hvd _) ?_
   simp -implicitDefEqProofs only[↓reduceIte,go_sem,Nat.reduceLT,Nat.reduceEqDiff,t8,aL,ai,dh]
   refine⟨by omega,by omega,?_⟩
   simp -implicitDefEqProofs only[↓reduceIte,go_sem,Nat.reduceLT,t9]
   refine c9.same ⟨ver+1,rfl,?_⟩
   simp -implicitDefEqProofs only[↓reduceIte,go_sem,Nat.reduceLT,Nat.reduceEqDiff,reduceCtorEq,t0,t7,hw]
  ·rintro s H' ⟨ver,rfl,t0,t7,t8,t9⟩
   rw[show W.take W.length=W from List.take_length]at*
   have hb:=hWb W.length (Nat.le_refl _)
   rw[List.take_length]at hb
   have l3:(cF C (dJ W.length)).length≤100000:=by
    rw[cF,cH,dW]
    have:C.length* dJ W.length≤4096* 12:=Nat.mul_le_mul (by omega) hwid
    omega
   have l4:(bp W.length++aY W).length≤11+4096* 1035:=by rw[List.length_append];omega
   simp -implicitDefEqProofs only[↓reduceIte,go_sem,Nat.reduceLT,Nat.reduceEqDiff,reduceCtorEq,t0,t7,t9,List.length_map]
   refine ae.ok (hcd _) ?_
   simp -implicitDefEqProofs only[↓reduceIte,go_sem,Nat.reduceLT,Nat.reduceEqDiff,t7,List.length_map]
   refine ae.ok (nd W.length (by omega) _) ?_
   simp -implicitDefEqProofs only[↓reduceIte,go_sem,Nat.reduceLT,Nat.reduceEqDiff]
   refine ae.ok (rN C (dJ W.length) (by omega) hC64 hcf (by omega) false _) ?_
   rw[hB]
   generalize cF C (dJ W.length)=Z at*
   generalize bp W.length++aY W=B at*
   simp -implicitDefEqProofs only[↓reduceIte,go_sem,Nat.reduceLT,Nat.reduceEqDiff,t8,aL,ai,dh]
   refine⟨by omega,by omega,aw.ret ?_⟩
   have ht:(aD (B++Z)).take (B.length+Z.length)=aD (B++Z):=List.take_of_length_le (by rw[ai,List.length_append];omega)
   simp -implicitDefEqProofs only[↓reduceIte,go_sem,Nat.reduceLT,Nat.reduceEqDiff,ht]
 ·have hd:ju l k=[]:=by unfold ju;rw[if_neg hp]
  rw[hd]
  refine ag.bE (cs:=[.d (.v (.slice none 0 0)),iA (aS l k)]) ?_ (.cons .nil (.cons (.refl _) .nil))
  refine ag.aj (hint:=(fun _=>false)) Tryz.func138 (by kernel_rfl) rfl [4,5] (by kernel_rfl) (by decide) (by simp[Tryz.ntmps138]) ?_
  rw[Tryz.ntmps138]
  simp -implicitDefEqProofs only[↓reduceIte,go_sem,Nat.reduceLT,Nat.reduceEqDiff,reduceCtorEq]
  refine ae.ok (dT l k false _ (by omega)) ?_
  simp -implicitDefEqProofs only[↓reduceIte,go_sem,Nat.reduceLT,Nat.reduceEqDiff,hp]
  refine aw.aI ?_
  simp -implicitDefEqProofs only[↓reduceIte,go_sem,Nat.reduceLT,Nat.reduceEqDiff]
theorem Bq{W:List aq}(h:lr W):a7 aM W=W:=by
 unfold a7
 rw[St.fF aG.ord (yy aG h),xq aG h]
theorem lr.next{W:List aq}(h:lr W):iE W:=fun i x y hx hy=>(h.get hx hy).2 (by omega)
theorem iE.all{W:List aq}(h:iE W):lr W:=by
 unfold lr
 rw[List.pairwise_iff_getElem]
 have tr:∀x y z:aq,aM x y<0→aM y z<0→aM x z<0:=fun x y z h1 h2=>by
  have h3:=aG.le_trans (x:=x) (y:=y) (z:=z) (by omega) (by omega)
  rcases Int.lt_or_eq_of_le h3 with h4|h4
  ·exact h4
  ·have h5:=(aG.C5 (z:=y) h4).1 h1
   have h6:=(aG.fC y z).1 h2
   omega
 have key:∀(d i:Nat) (x y:aq),W[i]?=some x→W[i+d+1]?=some y→aM x y<0:=by
  intro d
  induction d with
  |zero=>intro i x y hx hy;exact h i x y hx hy
  |succ d ih=>
   intro i x y hx hy
   have hlt:=(List.getElem?_eq_some_iff.1 hy).1
   have hz:=List.getElem?_eq_getElem (show i+d+1<W.length by omega)
   exact tr _ _ _ (ih i x _ hx hz) (h (i+d+1) _ y hz (by rw[←hy,show i+d+1+1=i+(d+1)+1 by omega]))
 intro i j h1 h2 hij
 have:=key (j-i-1) i _ _ (List.getElem?_eq_getElem h1) (by rw[show i+(j-i-1)+1=j by omega];exact List.getElem?_eq_getElem h2)
 simpa[iR]using this
theorem HU(W:List aq):a7 aM W=W↔iE W:=⟨fun h=>by
 have:=lf W
 rw[h]at this
 exact this.next,fun h=>Bq h.all⟩
def rv(o:List Nat)(m:Nat):List Bool:=(List.range m).map fun i=>decide (i∈o)
theorem GU(m:Nat):kL (rv [] m)=List.replicate m [.v (.bool false)]:=by
 apply List.ext_getElem
 ·simp[kL,rv]
 ·intro i h1 h2
  simp[kL,rv]
theorem HS{o:List Nat}{m c:Nat}(h:c<m):(kL (rv o m))[c]?=some [.v (.bool (decide (c∈o)))]:=by simp[kL,rv,h]
theorem Gi{o:List Nat}{m c:Nat}(h:c<m)(hn:c∉o):(kL (rv o m)).set c [.v (.bool true)]=kL (rv (gJ o c) m):=by
 unfold gJ
 rw[if_neg hn]
 apply List.ext_getElem
 ·simp[kL,rv]
 ·intro i h1 h2
  rw[List.getElem_set]
  split
  ·rename_i e
   subst e
   simp[kL,rv]
  ·rename_i e
   have:¬i=c:=fun h=>e h.symm
   simp[kL,rv,this]
theorem Hp{o:List Nat}{c:Nat}(h:c∈o):gJ o c=o:=if_pos h
theorem DW{o:List Nat}{c:Nat}(h:c∉o):(gJ o c).length=o.length+1:=by unfold gJ;rw[if_neg h];simp
theorem EY{C:List Nat}{n c:Nat}(hc:c∈C)(h:n≤c):fV C n=false:=by
 unfold fV
 rw[Bool.and_eq_false_iff]
 exact .inl (List.all_eq_false.2 ⟨c,(fM C c).2 hc,by simpa using h⟩)
theorem A5{C:List Nat}{n:Nat}(h:∀c∈C,c<n):fV C n=decide ((eE C).length=n):=by
 unfold fV
 rw[List.all_eq_true.2 fun c hc=>by simpa using h c ((fM C c).1 hc),Bool.true_and]
theorem E7(l:List Nat):(lL l).size=l.length:=by
 have:=congrArg List.length (ji l)
 rw[ByteArray.toList_eq]at this
 simpa using this
theorem G2(b:List Nat)(k:Int):(ej b k).1.s.size≤1024:=by
 have h0:cP.size=0:=rfl
 unfold ej
 split
 ·simp[zV,h0]
 split
 ·split<;>simp[cG,zV,h0]
 split
 ·unfold hZ
  split
  ·simp[zV,h0]
  ·split<;>simp[zV,h0]
 split
 ·split
  ·show(lL (ck b 1024).1).size≤1024
   rw[E7,qC]
   split
   ·simp
   split
   ·simp
   split
   ·simp
   ·rename_i h1 h2 h3
    simp only[List.length_take]
    omega
  ·simp[zV,h0]
 ·simp[zV,h0]
theorem r9(k:Int):∀(n:Nat) (b:List Nat),∀v∈(aX k n b).1,v.s.size≤1024
 |0,b,v,h=>by simp[aX]at h
 |n+1,b,v,h=>by
  unfold aX at h
  split at h
  ·split at h
   ·rcases List.mem_cons.1 h with rfl|h
    ·exact G2 b k
    ·exact r9 k n _ v h
   ·simp at h
  ·simp at h
theorem tP(b:List Nat)(n k:Int)(hl:b.length≤140737488351232)(hb:∀c∈b,c<256)(H:aa):
  ag Tryz.prog 163 [.d (.list false (aD b)),iA n,iA k] H (.ok (.bz [.d (.list false ((cJ b n k).1.map aq.enc)),.d (.list false (us (cJ b n k).2.1)),iA (cJ b n k).2.2])) H:=by
 by_cases hk:bJ k=false
 ·rw[show cJ b n k=([],[],1)from if_pos hk]
  refine ag.bE (cs:=[.d (.v (.slice none 0 0)),.d (.v (.slice none 0 0)),iA 1]) ?_ (.cons .nil (.cons .nil (.cons (.refl _) .nil)))
  refine ag.aj (hint:=(fun _=>false)) Tryz.func163 (by kernel_rfl) rfl [6,7,8] (by kernel_rfl) (by decide) (by simp[Tryz.ntmps163]) ?_
  rw[Tryz.ntmps163]
  simp -implicitDefEqProofs only[↓reduceIte,go_sem,Nat.reduceLT,Nat.reduceEqDiff]
  refine ae.ok (c7 k _) ?_
  simp -implicitDefEqProofs only[↓reduceIte,go_sem,Nat.reduceLT,hk]
  refine aw.aI ?_
  simp -implicitDefEqProofs only[↓reduceIte,go_sem,Nat.reduceLT,Nat.reduceEqDiff]
 rw[show cJ b n k=_ from if_neg hk]
 have hk1:bJ k=true:=by simpa using hk
 by_cases h1:n<0
 ·rw[if_pos h1]
  refine ag.bE (cs:=[.d (.v (.slice none 0 0)),.d (.v (.slice none 0 0)),iA 2]) ?_ (.cons .nil (.cons .nil (.cons (.refl _) .nil)))
  refine ag.aj (hint:=(fun _=>false)) Tryz.func163 (by kernel_rfl) rfl [6,7,8] (by kernel_rfl) (by decide) (by simp[Tryz.ntmps163]) ?_
  rw[Tryz.ntmps163]
  simp -implicitDefEqProofs only[↓reduceIte,go_sem,Nat.reduceLT,Nat.reduceEqDiff]
  refine ae.ok (c7 k _) ?_
  simp -implicitDefEqProofs only[↓reduceIte,go_sem,Nat.reduceLT,Nat.reduceEqDiff,hk1,h1]
  refine aw.aI ?_
  simp -implicitDefEqProofs only[↓reduceIte,go_sem,Nat.reduceLT,Nat.reduceEqDiff]
 rw[if_neg h1]
 by_cases h2:4096<n
 ·rw[if_pos h2]
  refine ag.bE (cs:=[.d (.v (.slice none 0 0)),.d (.v (.slice none 0 0)),iA 2]) ?_ (.cons .nil (.cons .nil (.cons (.refl _) .nil)))
  refine ag.aj (hint:=(fun _=>false)) Tryz.func163 (by kernel_rfl) rfl [6,7,8] (by kernel_rfl) (by decide) (by simp[Tryz.ntmps163]) ?_
  rw[Tryz.ntmps163]
  simp -implicitDefEqProofs only[↓reduceIte,go_sem,Nat.reduceLT,Nat.reduceEqDiff]
  refine ae.ok (c7 k _) ?_
  simp -implicitDefEqProofs only[↓reduceIte,go_sem,Nat.reduceLT,Nat.reduceEqDiff,reduceCtorEq,hk1,h1,h2]
  refine aw.aI ?_
  simp -implicitDefEqProofs only[↓reduceIte,go_sem,Nat.reduceLT,Nat.reduceEqDiff]
 rw[if_neg h2]
 obtain⟨N,rfl⟩:∃N:Nat,n=(N:Int):=⟨n.toNat,by omega⟩
 rw[Int.toNat_natCast]
 have h1f:((N:Int)<0)=False:=eq_false h1
 have h2f:((4096:Int)<(N:Int))=False:=eq_false h2
 have hgd:=fun H=>fx b false (by omega) hb H
 have hgl:=eO b
 have hglt:=fh b
 generalize aQ b=g at*
 obtain⟨many,j,e⟩:=g
 simp only at hgd hgl hglt⊢
 have hNu:=aK N (by omega)
 by_cases he:e=0
 ·subst he
  rw[if_neg (by simp)]
  by_cases h3:(N:Int)<(many:Int)
  ·rw[if_pos h3]
   refine ag.bE (cs:=[.d (.v (.slice none 0 0)),.d (.v (.slice none 0 0)),iA 4]) ?_ (.cons .nil (.cons .nil (.cons (.refl _) .nil)))
   refine ag.aj (hint:=(fun _=>false)) Tryz.func163 (by kernel_rfl) rfl [6,7,8] (by kernel_rfl) (by decide) (by simp[Tryz.ntmps163]) ?_
   rw[Tryz.ntmps163]
   simp -implicitDefEqProofs only[↓reduceIte,go_sem,Nat.reduceLT,Nat.reduceEqDiff]
   refine ae.ok (c7 k _) ?_
   simp -implicitDefEqProofs only[↓reduceIte,go_sem,Nat.reduceLT,Nat.reduceEqDiff,reduceCtorEq,hk1,h1f,h2f]
   refine ae.ok (hgd _) ?_
   simp -implicitDefEqProofs only[↓reduceIte,go_sem,Nat.reduceLT,Nat.reduceEqDiff,hNu,eq_true h3]
   refine aw.aI ?_
   simp -implicitDefEqProofs only[↓reduceIte,go_sem,Nat.reduceLT,Nat.reduceEqDiff]
  rw[if_neg h3]
  have h3f:((N:Int)<(many:Int))=False:=eq_false h3
  have hmw:IntKind.i64.wrap (many:Int)=(many:Int):=wrap64_in _ (by omega) (by omega)
  have hj0:((0:Int)≤(j:Int))=True:=eq_true (by omega)
  have hdb:∀c∈b.drop j,c<256:=fun c hc=>hb c (List.mem_of_mem_drop hc)
  have hrd:=fun H=>rT (b.drop j) many k (by omega) (by rw[List.length_drop];omega) hdb H
  have hrR:fQ k many (b.drop j)=if(aX k many (b.drop j)).2.2=0 then(if iE (aX k many (b.drop j)).1 then aX k many (b.drop j)else([],[],4))else([],[],(aX k many (b.drop j)).2.2):=rfl
  have hrl:=jf k many (b.drop j)
  obtain⟨i,hrs⟩:=jd k many (b.drop j)
  have hbt:(aD b).take b.length=aD b:=List.take_of_length_le (by rw[ai];exact Nat.le_refl _)
  have hgood:∀v∈(aX k many (b.drop j)).1,v.s.size≤1024:=r9 k many (b.drop j)
  generalize aX k many (b.drop j)=q2 at*
  generalize fQ k many (b.drop j)=q at*
  obtain⟨W,r,f⟩:=q2
  simp only at hrd hrR hrl hrs hgood
  by_cases hf:f=0
  ·subst hf
   have hW:W.length=many:=hrl rfl
   have hrb:∀c∈r,c<256:=fun c hc=>hdb c (List.mem_of_mem_drop (hrs▸hc))
   have hrlen:r.length≤b.length:=by rw[hrs,List.length_drop,List.length_drop];omega
   rw[if_pos rfl]at hrR
   have hwd:=fun H=>oR W false (by omega) (fun v hv=>by have:=hgood v hv;omega) H
   have hsm:=fun H=>yD (a7 aM W) W false false H (by have:=BS aM W;omega)
   rw[decide_eq_decide.2 (HU W)]at hsm
   by_cases hri:iE W
   ·rw[if_pos hri]at hrR
    subst hrR
    rw[decide_eq_true hri]at hsm
    have hwl:=og (n:=W.length) (by omega)
    have hun:=fun H=>kT r N (dJ W.length) false (by omega) hrb (by omega) (by omega) H
    have hT:qz (W,r,0) N=if bq r N (dJ W.length)≠0 then([],[],bq r N (dJ W.length))else if fV (bG r N (dJ W.length)) W.length then(W,bG r N (dJ W.length),0)else([],[],4):=rfl
    have hdw:=fun H=>nd W.length (by omega) H
    have hCl:=cr r N (dJ W.length)
    have hClt:=gp r N (dJ W.length) (by omega)
    unfold eF at hun
    rw[hT]
    generalize dJ W.length=wd at*
    generalize bG r N wd=C at*
    generalize bq r N wd=z at*
    by_cases hz:z=0
    ·subst hz
     rw[if_neg (by simp)]
     rw[if_pos rfl]at hun
     have hWu:=aK W.length (by omega)
     suffices h:ag Tryz.prog 163 [.d (.list false (aD b)),iA N,iA k] H (.ok (if fV C W.length then .bz [.d (.list false (W.map aq.enc)),.d (.list false (us C)),iA 0]else .bz [.d (.v (.slice none 0 0)),.d (.v (.slice none 0 0)),iA 4])) H by
      cases hu:fV C W.length with
      |true=>rw[hu]at h;exact h
      |false=>
       rw[hu]at h
       exact ag.bE h (.cons .nil (.cons .nil (.cons (.refl _) .nil)))
     refine ag.aj (hint:=(fun _=>false)) Tryz.func163 (by kernel_rfl) rfl [6,7,8] (by kernel_rfl) (by decide) (by simp[Tryz.ntmps163]) ?_
     rw[Tryz.ntmps163]
     simp -implicitDefEqProofs only[↓reduceIte,go_sem,Nat.reduceLT,Nat.reduceEqDiff]
     refine ae.ok (c7 k _) ?_
     simp -implicitDefEqProofs only[↓reduceIte,go_sem,Nat.reduceLT,Nat.reduceEqDiff,reduceCtorEq,hk1,h1f,h2f]
     refine ae.ok (hgd _) ?_
     simp -implicitDefEqProofs only[↓reduceIte,go_sem,Nat.reduceLT,Nat.reduceEqDiff,reduceCtorEq,hNu,h3f,aL,ai,hj0,hbt,cS,hmw]
     refine⟨by omega,ae.ok (hrd _) ?_⟩
     simp -implicitDefEqProofs only[↓reduceIte,go_sem,Nat.reduceLT,Nat.reduceEqDiff]
     refine ae.ok (hwd _) ?_
     simp -implicitDefEqProofs only[↓reduceIte,go_sem,Nat.reduceLT,Nat.reduceEqDiff]
     refine ae.ok (hsm _) ?_
     simp -implicitDefEqProofs only[↓reduceIte,go_sem,Nat.reduceLT,Nat.reduceEqDiff,List.length_map]
     refine ae.ok (hdw _) ?_
     simp -implicitDefEqProofs only[↓reduceIte,go_sem,Nat.reduceLT,Nat.reduceEqDiff]
     refine ae.ok (hun _) ?_
     simp -implicitDefEqProofs only[↓reduceIte,go_sem,Nat.reduceLT,Nat.reduceEqDiff,List.length_map]
     refine⟨⟨by omega,by omega⟩,?_⟩
     refine aP (fun i s H'=>H'=H++[.arr 4 1 0 (kL (rv (eE (C.take i)) W.length))]∧(∀c∈C.take i,c<W.length)∧s 9=du (eE (C.take i)).length∧s 12= .d (.list false (W.map aq.enc))∧s 15= .d (.list false (us C))∧s 17= .sl H.length 0 0 W.length∧s 18=iA i) C.length (by omega) (ay.refl _ _) ?_ ?_ ?_
     ·refine⟨by rw[←GU];rfl,by simp,?_⟩
      simp -implicitDefEqProofs only[↓reduceIte,go_sem,Nat.reduceLT,Nat.reduceEqDiff]
      rfl
     ·rintro i s H' hi hw ⟨rfl,hok,t9,t12,t15,t17,t18⟩
      have hx:=iO C i hi
      have hcm:=List.getElem_mem hi
      have e1:=so C i hi
      have e2:C.take (i+1)=C.take i++[C[i]]:=List.take_succ_eq_append_getElem hi
      have hcu:=hClt _ hcm
      have htl:=u7 (C.take i)
      rw[List.length_take]at htl
      rw[e1,e2]
      generalize C[i]=c at*
      generalize eE (C.take i)=o at*
      have hi0:((0:Int)≤(c:Int))=True:=eq_true (by omega)
      by_cases hcw:W.length≤c
      ·have hub:=EY hcm hcw
       rw[hub]
       simp -implicitDefEqProofs only[↓reduceIte,go_sem,Nat.reduceLT,Nat.reduceEqDiff,t12,t15,t18,hi,hx,List.length_map,hWu,cT,show((W.length:Int)≤(c:Int))=True from eq_true (by omega)]
       refine aw.ret ?_
       simp -implicitDefEqProofs only[↓reduceIte,go_sem,Nat.reduceLT,Nat.reduceEqDiff,Bool.false_eq_true]
      ·have hlt:c<W.length:=by omega
       have hgx:=HS (o:=o) hlt
       by_cases hin:c∈o
       ·rw[decide_eq_true hin]at hgx
        rw[Hp hin]
        simp -implicitDefEqProofs only[↓reduceIte,go_sem,ah,Nat.reduceLT,Nat.reduceEqDiff,t12,t15,t17,t18,hi,hx,List.length_map,hWu,cT,show((W.length:Int)≤(c:Int))=False from eq_false (by omega),hi0,show((c:Int)<(W.length:Int))=True from eq_true (by omega),hgx]
        refine c9.same ⟨rfl,?_,?_⟩
        ·intro x hx
         rcases List.mem_append.1 hx with h|h
         ·exact hok x h
         ·simp at h;omega
        ·simp -implicitDefEqProofs only[↓reduceIte,go_sem,Nat.reduceLT,Nat.reduceEqDiff,t9,t12,t15,t17,hw]
       ·rw[decide_eq_false hin]at hgx
        have hst:=Gi hlt hin
        have hln:=DW hin
        have hw1:IntKind.u64.wrap ((o.length:Int)+1)=((gJ o c).length:Int):=by rw[hln,cg _ (by omega) (by omega)];rfl
        simp -implicitDefEqProofs only[↓reduceIte,go_sem,ah,au,Nat.reduceLT,Nat.reduceEqDiff,t9,t12,t15,t17,t18,hi,hx,List.length_map,hWu,cT,show((W.length:Int)≤(c:Int))=False from eq_false (by omega),hi0,show((c:Int)<(W.length:Int))=True from eq_true (by omega),hgx,hst,hw1]
        refine c9.same ⟨rfl,?_,?_⟩
        ·intro x hx
         rcases List.mem_append.1 hx with h|h
         ·exact hok x h
         ·simp at h;omega
        ·simp -implicitDefEqProofs only[↓reduceIte,go_sem,Nat.reduceLT,Nat.reduceEqDiff,t12,t15,t17,hw]
     ·rintro s H' ⟨rfl,hok,t9,t12,t15,t17,t18⟩
      rw[List.take_length]at hok t9
      rw[A5 hok]
      by_cases hq:(eE C).length=W.length
      ·simp -implicitDefEqProofs only[↓reduceIte,go_sem,Nat.reduceLT,Nat.reduceEqDiff,t9,t12,t15,t18,cT,List.length_map,hWu,hq]
       refine aw.ret ?_
       simp -implicitDefEqProofs only[↓reduceIte,go_sem,Nat.reduceLT,Nat.reduceEqDiff]
       rw[if_pos hq]
      ·simp -implicitDefEqProofs only[↓reduceIte,go_sem,Nat.reduceLT,Nat.reduceEqDiff,t9,t12,t15,t18,cT,List.length_map,hWu,show(((eE C).length:Int)=(W.length:Int))=False from eq_false (by omega)]
       refine aw.ret ?_
       simp -implicitDefEqProofs only[↓reduceIte,go_sem,Nat.reduceLT,Nat.reduceEqDiff]
       rw[if_neg hq]
    ·rw[if_pos hz]
     rw[if_neg hz]at hun
     refine ag.bE (cs:=[.d (.v (.slice none 0 0)),.d (.v (.slice none 0 0)),iA z]) ?_ (.cons .nil (.cons .nil (.cons (.refl _) .nil)))
     refine ag.aj (hint:=(fun _=>false)) Tryz.func163 (by kernel_rfl) rfl [6,7,8] (by kernel_rfl) (by decide) (by simp[Tryz.ntmps163]) ?_
     rw[Tryz.ntmps163]
     simp -implicitDefEqProofs only[↓reduceIte,go_sem,Nat.reduceLT,Nat.reduceEqDiff]
     refine ae.ok (c7 k _) ?_
     simp -implicitDefEqProofs only[↓reduceIte,go_sem,Nat.reduceLT,Nat.reduceEqDiff,reduceCtorEq,hk1,h1f,h2f]
     refine ae.ok (hgd _) ?_
     simp -implicitDefEqProofs only[↓reduceIte,go_sem,Nat.reduceLT,Nat.reduceEqDiff,reduceCtorEq,hNu,h3f,aL,ai,hj0,hbt,cS,hmw]
     refine⟨by omega,ae.ok (hrd _) ?_⟩
     simp -implicitDefEqProofs only[↓reduceIte,go_sem,Nat.reduceLT,Nat.reduceEqDiff]
     refine ae.ok (hwd _) ?_
     simp -implicitDefEqProofs only[↓reduceIte,go_sem,Nat.reduceLT,Nat.reduceEqDiff]
     refine ae.ok (hsm _) ?_
     simp -implicitDefEqProofs only[↓reduceIte,go_sem,Nat.reduceLT,Nat.reduceEqDiff,List.length_map]
     refine ae.ok (hdw _) ?_
     simp -implicitDefEqProofs only[↓reduceIte,go_sem,Nat.reduceLT,Nat.reduceEqDiff]
     refine ae.ok (hun _) ?_
     simp -implicitDefEqProofs only[↓reduceIte,go_sem,Nat.reduceLT,Nat.reduceEqDiff,hz]
     refine aw.aI ?_
     simp -implicitDefEqProofs only[↓reduceIte,go_sem,Nat.reduceLT,Nat.reduceEqDiff]
   ·rw[if_neg hri]at hrR
    subst hrR
    rw[decide_eq_false hri]at hsm
    rw[show qz ([],[],4) N=([],[],4)from if_pos (by simp)]
    refine ag.bE (cs:=[.d (.v (.slice none 0 0)),.d (.v (.slice none 0 0)),iA 4]) ?_ (.cons .nil (.cons .nil (.cons (.refl _) .nil)))
    refine ag.aj (hint:=(fun _=>false)) Tryz.func163 (by kernel_rfl) rfl [6,7,8] (by kernel_rfl) (by decide) (by simp[Tryz.ntmps163]) ?_
    rw[Tryz.ntmps163]
    simp -implicitDefEqProofs only[↓reduceIte,go_sem,Nat.reduceLT,Nat.reduceEqDiff]
    refine ae.ok (c7 k _) ?_
    simp -implicitDefEqProofs only[↓reduceIte,go_sem,Nat.reduceLT,Nat.reduceEqDiff,reduceCtorEq,hk1,h1f,h2f]
    refine ae.ok (hgd _) ?_
    simp -implicitDefEqProofs only[↓reduceIte,go_sem,Nat.reduceLT,Nat.reduceEqDiff,reduceCtorEq,hNu,h3f,aL,ai,hj0,hbt,cS,hmw]
    refine⟨by omega,ae.ok (hrd _) ?_⟩
    simp -implicitDefEqProofs only[↓reduceIte,go_sem,Nat.reduceLT,Nat.reduceEqDiff]
    refine ae.ok (hwd _) ?_
    simp -implicitDefEqProofs only[↓reduceIte,go_sem,Nat.reduceLT,Nat.reduceEqDiff]
    refine ae.ok (hsm _) ?_
    simp -implicitDefEqProofs only[↓reduceIte,go_sem,Nat.reduceLT]
    refine aw.aI ?_
    simp -implicitDefEqProofs only[↓reduceIte,go_sem,Nat.reduceLT,Nat.reduceEqDiff]
  ·rw[if_neg hf]at hrR
   subst hrR
   rw[show qz ([],[],f) N=([],[],f)from if_pos hf]
   refine ag.bE (cs:=[.d (.v (.slice none 0 0)),.d (.v (.slice none 0 0)),iA f]) ?_ (.cons .nil (.cons .nil (.cons (.refl _) .nil)))
   refine ag.aj (hint:=(fun _=>false)) Tryz.func163 (by kernel_rfl) rfl [6,7,8] (by kernel_rfl) (by decide) (by simp[Tryz.ntmps163]) ?_
   rw[Tryz.ntmps163]
   simp -implicitDefEqProofs only[↓reduceIte,go_sem,Nat.reduceLT,Nat.reduceEqDiff]
   refine ae.ok (c7 k _) ?_
   simp -implicitDefEqProofs only[↓reduceIte,go_sem,Nat.reduceLT,Nat.reduceEqDiff,reduceCtorEq,hk1,h1f,h2f]
   refine ae.ok (hgd _) ?_
   simp -implicitDefEqProofs only[↓reduceIte,go_sem,Nat.reduceLT,Nat.reduceEqDiff,reduceCtorEq,hNu,h3f,aL,ai,hj0,hbt,cS,hmw]
   refine⟨by omega,ae.ok (hrd _) ?_⟩
   simp -implicitDefEqProofs only[↓reduceIte,go_sem,Nat.reduceLT,Nat.reduceEqDiff,hf]
   refine aw.aI ?_
   simp -implicitDefEqProofs only[↓reduceIte,go_sem,Nat.reduceLT,Nat.reduceEqDiff]
 ·rw[if_pos he]
  refine ag.bE (cs:=[.d (.v (.slice none 0 0)),.d (.v (.slice none 0 0)),iA e]) ?_ (.cons .nil (.cons .nil (.cons (.refl _) .nil)))
  refine ag.aj (hint:=(fun _=>false)) Tryz.func163 (by kernel_rfl) rfl [6,7,8] (by kernel_rfl) (by decide) (by simp[Tryz.ntmps163]) ?_
  rw[Tryz.ntmps163]
  simp -implicitDefEqProofs only[↓reduceIte,go_sem,Nat.reduceLT,Nat.reduceEqDiff]
  refine ae.ok (c7 k _) ?_
  simp -implicitDefEqProofs only[↓reduceIte,go_sem,Nat.reduceLT,Nat.reduceEqDiff,reduceCtorEq,hk1,h1f,h2f]
  refine ae.ok (hgd _) ?_
  simp -implicitDefEqProofs only[↓reduceIte,go_sem,Nat.reduceLT,Nat.reduceEqDiff,he]
  refine aw.aI ?_
  simp -implicitDefEqProofs only[↓reduceIte,go_sem,Nat.reduceLT,Nat.reduceEqDiff]
theorem xc(b:List Nat)(n k:Int)(hl:b.length≤140737488351232)(hb:∀c∈b,c<256)(H:aa):
  ag Tryz.prog 133 [.d (.list false (aD b)),iA n,iA k] H (.ok (.bz [.d (.list false ((fT b n k).1.map aq.enc)),iA (fT b n k).2])) H:=by
 have htd:=fun H=>tP b n k hl hb H
 have hok:=fun W C=>nw (b:=b) (n:=n) (k:=k) (W:=W) (C:=C)
 unfold fT
 generalize cJ b n k=t at*
 obtain⟨W,C,e⟩:=t
 simp only at htd hok⊢
 by_cases he:e=0
 ·subst he
  obtain⟨N,many,j,i,rfl,hN,_,_,hmN,_,_,hW,_,hC,hu⟩:=hok W C rfl
  have hlt:=rz hu
  have hCl:C.length=N:=by rw[hC,cr]
  clear hok hC hu
  rw[if_pos rfl]
  refine ag.aj (hint:=(fun _=>false)) Tryz.func133 (by kernel_rfl) rfl [6,7] (by kernel_rfl) (by decide) (by simp[Tryz.ntmps133]) ?_
  rw[Tryz.ntmps133]
  simp -implicitDefEqProofs only[↓reduceIte,go_sem,Nat.reduceLT,Nat.reduceEqDiff,reduceCtorEq]
  refine ae.ok (htd _) ?_
  simp -implicitDefEqProofs only[↓reduceIte,go_sem,Nat.reduceLT,Nat.reduceEqDiff]
  refine aP (fun i s H'=>H'=H++[.arr 25 3 i ((fe W (C.take i)).map aq.enc)]∧s 8= .d (.list false (W.map aq.enc))∧s 9= .d (.list false (us C))∧s 11= .sl H.length i 0 i∧s 12=iA i) C.length (by omega) (ay.db _ _ 11 25 3 (by decide) (by simp -implicitDefEqProofs only[↓reduceIte,go_sem,Nat.reduceLT,Nat.reduceEqDiff]) _) ?_ ?_ ?_
  ·refine⟨rfl,?_⟩
   simp -implicitDefEqProofs only[↓reduceIte,go_sem,Nat.reduceLT,Nat.reduceEqDiff]
  ·rintro i s H' hi hw ⟨rfl,t8,t9,t11,t12⟩
   have hx:=iO C i hi
   have hcl:=hlt _ (List.getElem_mem hi)
   have hwg:=List.getElem?_eq_getElem hcl
   have e1:fe W (C.take (i+1))=fe W (C.take i)++[W[C[i]]]:=by
    unfold fe
    rw[List.take_succ_eq_append_getElem hi,List.map_append]
    simp[List.getD,hcl]
   have hpl:(fe W (C.take i)).length=i:=by unfold fe;rw[List.length_map,List.length_take];omega
   rw[e1]
   generalize fe W (C.take i)=L at*
   generalize W[C[i]]=v at*
   generalize C[i]=c at*
   have hc0:((0:Int)≤(c:Int))=True:=eq_true (by omega)
   have hsn:L.map aq.enc++[[D.v (.int .i64 v.kind),D.v (.int .i64 v.i),D.v (.string v.s)]]=(L++[v]).map aq.enc:=by simp[aq.enc]
   simp -implicitDefEqProofs only[↓reduceIte,go_sem,Nat.reduceAdd,Nat.reduceLT,Nat.reduceLeDiff,Nat.reduceEqDiff,t8,t9,t11,t12,hi,cT,hx,hwg,hc0,List.length_map,hpl,hsn,aq.enc]
   refine⟨by omega,by omega,?_⟩
   refine c9.same ⟨rfl,?_⟩
   simp -implicitDefEqProofs only[↓reduceIte,go_sem,Nat.reduceLT,Nat.reduceEqDiff,t8,t9,hw]
  ·rintro s H' ⟨rfl,t8,t9,t11,t12⟩
   simp -implicitDefEqProofs only[↓reduceIte,go_sem,Nat.reduceLT,Nat.reduceEqDiff,t9,t11,t12,cT]
   refine aw.ret ?_
   rw[List.take_length]
   simp -implicitDefEqProofs only[↓reduceIte,go_sem,Nat.reduceLT,Nat.reduceEqDiff,List.take_of_length_le (show((fe W C).map aq.enc).length≤C.length by rw[List.length_map,fe,List.length_map];omega)]
 ·rw[if_neg he]
  refine ag.bE (cs:=[.d (.v (.slice none 0 0)),iA e]) ?_ (.cons .nil (.cons (.refl _) .nil))
  refine ag.aj (hint:=(fun _=>false)) Tryz.func133 (by kernel_rfl) rfl [6,7] (by kernel_rfl) (by decide) (by simp[Tryz.ntmps133]) ?_
  rw[Tryz.ntmps133]
  simp -implicitDefEqProofs only[↓reduceIte,go_sem,Nat.reduceLT,Nat.reduceEqDiff,reduceCtorEq]
  refine ae.ok (htd _) ?_
  simp -implicitDefEqProofs only[↓reduceIte,go_sem,Nat.reduceLT,Nat.reduceEqDiff,he]
  refine aw.aI ?_
  simp -implicitDefEqProofs only[↓reduceIte,go_sem,Nat.reduceLT,Nat.reduceEqDiff]
theorem qA(l:List Nat)(nn:Bool)(H:aa)(hl:l.length≤1000000000000)(hu:∀n∈l,n<18446744073709551616):ag Tryz.prog 164 [.d (.list nn (us l))] H (.ok (iA (cw l))) H:=by
 have h64:=jg hu
 refine ag.aj (hint:=(fun _=>false)) Tryz.func164 (by kernel_rfl) rfl [2] (by kernel_rfl) (by decide) (by simp[Tryz.ntmps164]) ?_
 rw[Tryz.ntmps164]
 simp -implicitDefEqProofs only[go_sem]
 refine aP (fun k s H'=>H'=H∧k≤cw l∧s 0= .d (.list nn (us l))∧s 3=iA k) 64 (by omega) (ay.refl _ _) ?_ ?_ ?_
 ·refine⟨rfl,Nat.zero_le _,?_⟩
  simp -implicitDefEqProofs only[↓reduceIte,go_sem,Nat.reduceLT,reduceCtorEq]
 ·rintro k s H' hk hw ⟨rfl,hkw,t0,t3⟩
  have hk':((k:Int)<64)=True:=eq_true (by omega)
  simp -implicitDefEqProofs only[↓reduceIte,go_sem,Nat.reduceLT,t3,hk']
  refine aP (fun j s H2=>H2=H'∧s 0= .d (.list nn (us l))∧s 3=iA k∧s 4=bA ((l.take j).all fun n=>decide (n<2^k))∧s 5=iA j) l.length (by omega) (ay.refl _ _) ?_ ?_ ?_
  ·refine⟨rfl,?_⟩
   simp -implicitDefEqProofs only[↓reduceIte,go_sem,Nat.reduceLT,Nat.reduceEqDiff,reduceCtorEq,t0,t3,List.take_zero,List.all_nil]
  ·rintro j s H' hj hw2 ⟨rfl,t0,t3,t4,t5⟩
   have hx:=iO l j hj
   have hlt:=hu _ (List.getElem_mem hj)
   have e:(l.take (j+1)).all (fun n=>decide (n<2^k))=((l.take j).all (fun n=>decide (n<2^k))&&decide (l[j]<2^k)):=by rw[List.take_succ_eq_append_getElem hj,List.all_append];simp
   rw[e]
   generalize l[j]=x at*
   generalize (l.take j).all (fun n=>decide (n<2^k))=b at*
   simp -implicitDefEqProofs only[↓reduceIte,go_sem,Nat.reduceLT,Nat.reduceEqDiff,reduceCtorEq,t0,t3,t5,cT,hj,hx]
   refine ae.ok (pV x k hlt (by omega) _) ?_
   cases b
   ·simp -implicitDefEqProofs only[↓reduceIte,go_sem,Nat.reduceLT,Nat.reduceEqDiff,reduceCtorEq,t4,t5]
    refine c9.same ⟨rfl,?_⟩
    simp -implicitDefEqProofs only[↓reduceIte,go_sem,Nat.reduceLT,Nat.reduceEqDiff,reduceCtorEq,t0,t3,hw2]
   ·simp -implicitDefEqProofs only[↓reduceIte,go_sem,Nat.reduceLT,Nat.reduceEqDiff,t4,t5]
    refine c9.same ⟨rfl,?_⟩
    simp -implicitDefEqProofs only[↓reduceIte,go_sem,Nat.reduceLT,Nat.reduceEqDiff,reduceCtorEq,t0,t3,hw2]
  ·rintro s H' ⟨rfl,t0,t3,t4,t5⟩
   rw[show l.take l.length=l from List.take_length]at t4
   have hiff:=Cc (l:=l) k
   cases hb:l.all fun n=>decide (n<2^k)with
   |true=>
    rw[hb]at t4
    have:cw l=k:=by
     have:cw l≤k:=hiff.2 fun n hn=>by simpa using List.all_eq_true.1 hb n hn
     omega
    simp -implicitDefEqProofs only[↓reduceIte,go_sem,Nat.reduceLT,Nat.reduceEqDiff,reduceCtorEq,t0,t3,t4,t5,cT]
    refine aw.aI ?_
    simp -implicitDefEqProofs only[↓reduceIte,go_sem,Nat.reduceLT,this]
   |false=>
    rw[hb]at t4
    have:¬cw l≤k:=fun h=>by
     have h2:=hiff.1 h
     rw[List.all_eq_false]at hb
     obtain⟨x,hx,hn⟩:=hb
     exact hn (by simpa using h2 x hx)
    simp -implicitDefEqProofs only[↓reduceIte,go_sem,Nat.reduceLT,Nat.reduceEqDiff,reduceCtorEq,t0,t3,t4,t5,cT]
    refine c9.same ⟨rfl,by omega,?_⟩
    simp -implicitDefEqProofs only[↓reduceIte,go_sem,Nat.reduceLT,reduceCtorEq,t0,hw]
 ·rintro s H' ⟨rfl,hkw,t0,t3⟩
  simp -implicitDefEqProofs only[↓reduceIte,go_sem,Nat.reduceLT,Int.reduceLT,t3]
  refine aw.aI ?_
  rw[show cw l=64 by omega]
  simp -implicitDefEqProofs only[↓reduceIte,go_sem,Nat.reduceLT]
theorem yW(l:List aq)(nn:Bool)(H:aa)(hl:l.length≤1000000000000):ag Tryz.prog 170 [.d (.list nn (l.map aq.enc))] H (.ok (.d (.list false (us (bT l))))) H:=by
 have hsl:=fo l
 refine ag.aj (hint:=(fun _=>false)) Tryz.func170 (by kernel_rfl) rfl [2] (by kernel_rfl) (by decide) (by simp[Tryz.ntmps170]) ?_
 rw[Tryz.ntmps170]
 simp -implicitDefEqProofs only[go_sem]
 refine aP (fun k s H'=>H'=H++[.arr 49 1 k (us ((bT l).take k))]∧s 0= .d (.list nn (l.map aq.enc))∧s 3= .sl H.length k 0 k∧s 4=iA ((k:Int)+1)) (l.length-1) (by omega) (ay.db _ _ 3 49 1 (by decide) (by simp -implicitDefEqProofs only[↓reduceIte,go_sem,Nat.reduceLT,Nat.reduceEqDiff]) _) ?_ ?_ ?_
 ·refine⟨?_,?_⟩
  ·simp -implicitDefEqProofs only[go_sem,List.take_zero,Gw]
  ·simp -implicitDefEqProofs only[↓reduceIte,go_sem,Nat.reduceLT,Nat.reduceEqDiff,Int.reduceAdd,reduceCtorEq]
 ·rintro k s H' hk hw ⟨rfl,t0,t3,t4⟩
  have hk1:k<l.length:=by omega
  have hk2:k+1<l.length:=by omega
  have hx:=List.getElem?_eq_getElem hk1
  have hy:=List.getElem?_eq_getElem hk2
  have hs:=tC l k hk2
  generalize l[k]=x at hx hs
  generalize l[k+1]=y at hy hs
  have hlen:((bT l).take k).length=k:=by simp;omega
  have hw2:IntKind.i64.wrap ((k:Int)+1-1)=(k:Int):=by rw[wrap64_in _ (by omega) (by omega)];omega
  have hw3:IntKind.i64.wrap ((k:Int)+1+1)=(k:Int)+1+1:=wrap64_in _ (by omega) (by omega)
  have hc:((k:Int)+1<(l.length:Int))=True:=eq_true (by omega)
  have ht:((k:Int)+1).toNat=k+1:=by omega
  have hp:(0≤(k:Int)+1)=True:=eq_true (by omega)
  generalize (bT l).take k=L at hs hlen
  simp -implicitDefEqProofs only[↓reduceIte,go_sem,Nat.reduceLT,Nat.reduceEqDiff,reduceCtorEq,t0,t4,hc,List.length_map]
  refine ig 15 K.mixed (by kernel_rfl) (by kernel_rfl) ?_
  simp -implicitDefEqProofs only[↓reduceIte,go_sem,Nat.reduceAdd,Nat.reduceLT,Nat.reduceLeDiff,Nat.reduceEqDiff,reduceCtorEq,t0,t3,t4,hw2,hx,hy,ht,hp,aq.enc]
  refine ae.ok (pj _ (dY _).1 (dY _).2 _) ?_
  simp -implicitDefEqProofs only[↓reduceIte,go_sem,Nat.reduceLT,Nat.reduceLeDiff,Nat.reduceEqDiff,cT,hlen,t4,mD]
  refine⟨by omega,by omega,c9.same ⟨?_,?_⟩⟩
  ·rw[hs];rfl
  ·simp -implicitDefEqProofs only[↓reduceIte,go_sem,Nat.reduceLT,Nat.reduceEqDiff,reduceCtorEq,t0,hw3]
 ·rintro s H' ⟨rfl,t0,t3,t4⟩
  have hc:(((l.length-1:Nat):Int)+1<(l.length:Int))=False:=eq_false (by omega)
  simp -implicitDefEqProofs only[↓reduceIte,go_sem,Nat.reduceLT,Nat.reduceEqDiff,reduceCtorEq,t0,t3,t4,hc,List.length_map]
  refine aw.ret ?_
  simp -implicitDefEqProofs only[↓reduceIte,go_sem,Nat.reduceLT,bQ,cT,hsl]
theorem vA(l:List aq)(hok:∀v∈l,eJ v.i)(nn:Bool)(H:aa)(hl:l.length≤1000000000000):ag Tryz.prog 139 [.d (.list nn (l.map aq.enc))] H (.ok (jZ l)) H:=by
 have hbad:∀b:Bool,b=true∨b=false:=by decide
 refine ag.aj (hint:=(fun _=>false)) Tryz.func139 (by kernel_rfl) rfl [2,3] (by kernel_rfl) (by decide) (by simp[Tryz.ntmps139]) ?_
 rw[Tryz.ntmps139]
 simp -implicitDefEqProofs only[↓reduceIte,go_sem,Nat.reduceLT,reduceCtorEq]
 refine ae.ok (dT l 1 nn _ (by omega)) ?_
 by_cases h1:aS l 1=0
 ·cases l with
  |nil=>
   simp -implicitDefEqProofs only[↓reduceIte,go_sem,Nat.reduceLT,reduceCtorEq,h1]
   refine aw.aI ?_
   simp -implicitDefEqProofs only[↓reduceIte,go_sem,Nat.reduceLT,Nat.reduceEqDiff,jZ,h1,Ne,not_true,and_false]
  |cons v r=>
   have hs:=fo (v::r)
   have h4:=dO h1
   have hll:=hok v (by simp)
   have hss:=j9 (v::r)
   simp -implicitDefEqProofs only[↓reduceIte,go_sem,Nat.reduceLT,reduceCtorEq,h1,show(((r.length:Nat):Int)+1=0)=False from eq_false (by omega)]
   refine ae.ok (yW (v::r) nn _ hl) ?_
   simp -implicitDefEqProofs only[↓reduceIte,go_sem,Nat.reduceLT]
   refine ae.ok (qA _ false _ (by omega) hss) ?_
   have hw64:=jg hss
   have hfit:=jR (l:=bT (v::r))
   have hzl:=gM hll.1 hll.2
   have hb:iN (v::r)=bp (fj v.i)++bp (cw (bT (v::r)))++cF (bT (v::r)) (cw (bT (v::r))):=rfl
   generalize cw (bT (v::r))=w at*
   generalize bT (v::r)=S at*
   simp -implicitDefEqProofs only[↓reduceIte,go_sem,Nat.reduceAdd,Nat.reduceLT,Nat.reduceLeDiff,Int.reduceLE,Int.reduceToNat,reduceCtorEq,aq.enc]
   refine ae.ok (pj _ hll.1 hll.2 _) ?_
   simp -implicitDefEqProofs only[↓reduceIte,go_sem,Nat.reduceLT]
   refine ae.ok (gK _ hzl _) ?_
   simp -implicitDefEqProofs only[↓reduceIte,go_sem,Nat.reduceLT,Nat.reduceEqDiff,aK w (by omega)]
   refine ae.ok (mI w (by omega) _) ?_
   have l1:=bD 10 (fj v.i) (by omega)
   have l2:=bD 10 w (by omega)
   simp -implicitDefEqProofs only[↓reduceIte,go_sem,Nat.reduceLT,Nat.reduceEqDiff,aL,ai,dh]
   refine⟨by omega,by omega,?_⟩
   refine ae.ok (rN S w hw64 hss hfit (by omega) false _) ?_
   simp -implicitDefEqProofs only[↓reduceIte,go_sem,Nat.reduceLT,Nat.reduceEqDiff,aL,ai,dh,List.length_append]
   have l3:(cF S w).length≤100000:=by
    rw[cF,cH,dW]
    have:S.length* w≤4096* 64:=Nat.mul_le_mul (by omega) hw64
    omega
   refine⟨by omega,by omega,aw.ret ?_⟩
   have ht:(aD (bp (fj v.i)++(bp w++cF S w))).take ((bp (fj v.i)).length+(bp w).length+(cF S w).length)=aD (bp (fj v.i)++(bp w++cF S w)):=bQ _ _ (by rw[ai,List.length_append,List.length_append];omega)
   simp -implicitDefEqProofs only[↓reduceIte,go_sem,Nat.reduceLT,Nat.reduceEqDiff,reduceCtorEq,jZ,h1,hb,ht,Ne,not_false_eq_true,and_self]
 ·simp -implicitDefEqProofs only[↓reduceIte,go_sem,Nat.reduceLT,Nat.reduceEqDiff,h1]
  refine aw.aI ?_
  simp -implicitDefEqProofs only[↓reduceIte,go_sem,Nat.reduceLT,Nat.reduceEqDiff,jZ,h1,false_and]
theorem HI(b:List Nat)(n:Int)(nn:Bool)(hl:b.length≤140737488351232)(hb:∀c∈b,c<256)(H:aa):
  ag Tryz.prog 134 [.d (.list nn (aD b)),iA n] H (.ok (.bz [fa (mW b n).1,iA (mW b n).2])) H:=by
 refine ag.aj (hint:=(fun _=>false)) Tryz.func134 (by kernel_rfl) rfl [4,5] (by kernel_rfl) (by decide) (by simp[Tryz.ntmps134]) ?_
 rw[Tryz.ntmps134]
 by_cases h1:n<0
 ·simp -implicitDefEqProofs only[↓reduceIte,go_sem,Nat.reduceLT,Nat.reduceEqDiff,h1]
  refine aw.aI ?_
  simp -implicitDefEqProofs only[↓reduceIte,go_sem,Nat.reduceLT,Nat.reduceEqDiff]
  simp[mW,h1,fa]
 by_cases h2:4096<n
 ·simp -implicitDefEqProofs only[↓reduceIte,go_sem,Nat.reduceLT,Nat.reduceEqDiff,reduceCtorEq,h1,h2]
  refine aw.aI ?_
  simp -implicitDefEqProofs only[↓reduceIte,go_sem,Nat.reduceLT,Nat.reduceEqDiff]
  simp[mW,h2,fa]
 by_cases h3:n=0
 ·subst h3
  by_cases h4:0<b.length
  ·have h4':(0<(b.length:Int))=True:=eq_true (by omega)
   simp -implicitDefEqProofs only[↓reduceIte,go_sem,Nat.reduceLT,Nat.reduceEqDiff,Int.reduceLT,reduceCtorEq,ai,h4']
   refine aw.aI ?_
   simp -implicitDefEqProofs only[↓reduceIte,go_sem,Nat.reduceLT,Nat.reduceEqDiff]
   simp[mW,h4,fa]
  ·have h4':(0<(b.length:Int))=False:=eq_false (by omega)
   simp -implicitDefEqProofs only[↓reduceIte,go_sem,Nat.reduceLT,Nat.reduceEqDiff,Int.reduceLT,reduceCtorEq,ai,h4']
   refine aw.aI ?_
   simp -implicitDefEqProofs only[↓reduceIte,go_sem,Nat.reduceLT,Nat.reduceEqDiff]
   simp[mW,h4,fa]
 have hR:mW b n=JH b n.toNat:=by simp[mW,h1,h2,h3]
 rw[hR]
 obtain⟨m,hm⟩:∃m:Nat,n=((m+1:Nat):Int):=⟨n.toNat-1,by omega⟩
 have hwn:IntKind.i64.wrap (n-1)=(m:Int):=by rw[wrap64_in _ (by omega) (by omega)];omega
 unfold JH
 rw[show n.toNat=m+1 by omega,show m+1-1=m from rfl]
 have hgl:=eO b
 have hglt:=fh b
 simp -implicitDefEqProofs only[↓reduceIte,go_sem,Nat.reduceLT,Nat.reduceEqDiff,reduceCtorEq,h1,h2,h3]
 refine ae.ok (fx b nn (by omega) hb H) ?_
 generalize aQ b=g1 at*
 obtain⟨first,k,e⟩:=g1
 simp only at hgl hglt
 by_cases he:e=0
 ·subst he
  have hk0:((0:Int)≤(k:Int))=True:=eq_true (by omega)
  simp -implicitDefEqProofs only[↓reduceIte,go_sem,Nat.reduceLT,Nat.reduceEqDiff,reduceCtorEq,aL,ai,hk0]
  refine⟨by omega,?_⟩
  rw[show(aD b).take b.length=aD b from bQ _ _ (ai _),cS]
  have hgl2:=eO (b.drop k)
  have hglt2:=fh (b.drop k)
  have hb2:∀c∈b.drop k,c<256:=fun c hc=>hb c (List.mem_of_mem_drop hc)
  refine ae.ok (fx (b.drop k) false (by simp;omega) hb2 H) ?_
  rw[List.length_drop]at hgl2
  generalize aQ (b.drop k)=g2 at*
  obtain⟨w,j,e⟩:=g2
  simp only at hgl2 hglt2
  by_cases he:e=0
  ·subst he
   by_cases hw:64<w
   ·have hw':(64<(w:Int))=True:=eq_true (by omega)
    simp -implicitDefEqProofs only[↓reduceIte,go_sem,Nat.reduceLT,Nat.reduceEqDiff,hw']
    refine aw.aI ?_
    simp -implicitDefEqProofs only[↓reduceIte,go_sem,Nat.reduceLT,Nat.reduceEqDiff]
    simp[hw,fa]
   ·have hw':(64<(w:Int))=False:=eq_false (by omega)
    have hkj:IntKind.i64.wrap ((k:Int)+(j:Int))=((k+j:Nat):Int):=by rw[wrap64_in _ (by omega) (by omega)];rfl
    have hww:IntKind.i64.wrap (w:Int)=(w:Int):=wrap64_in _ (by omega) (by omega)
    obtain⟨p,hp⟩:∃p,p=k+j:=⟨_,rfl⟩
    rw[←hp]at hkj
    simp only[←hp]
    have hp0:((0:Int)≤(p:Int))=True:=eq_true (by omega)
    simp -implicitDefEqProofs only[↓reduceIte,go_sem,Nat.reduceLT,Nat.reduceEqDiff,reduceCtorEq,hw',hkj,hww,hwn,aL,ai,hp0]
    refine⟨by omega,?_⟩
    rw[show(aD b).take b.length=aD b from bQ _ _ (ai _),cS]
    have hb3:∀c∈b.drop p,c<256:=fun c hc=>hb c (List.mem_of_mem_drop hc)
    have hSl:=gp (b.drop p) m w (by omega)
    have hSn:=cr (b.drop p) m w
    have hu:=kT (b.drop p) m w false (by simp;omega) hb3 (by omega) (by omega) H
    unfold eF at hu
    generalize bG (b.drop p) m w=S at*
    by_cases hue:bq (b.drop p) m w=0
    ·rw[hue]at hu⊢
     refine ae.ok hu ?_
     simp -implicitDefEqProofs only[↓reduceIte,go_sem,Nat.reduceLT,Nat.reduceEqDiff]
     refine ae.ok (qA S false H (by omega) hSl) ?_
     by_cases hwd:cw S=w
     ·have hwd':(((cw S:Nat):Int)=(w:Int))=True:=eq_true (by omega)
      simp -implicitDefEqProofs only[↓reduceIte,go_sem,Nat.reduceLT,Nat.reduceEqDiff,hww,hwd']
      refine ae.ok (pf first hglt H) ?_
      simp -implicitDefEqProofs only[↓reduceIte,go_sem,Nat.reduceLT]
      obtain⟨M,hM⟩:∃M:Nat,M=m+1:=⟨_,rfl⟩
      rw[←hM]at hm
      refine aP (fun i s H'=>H'=H++[.arr 25 3 i ((gF (dA first) S i).map aq.enc)]∧s 1=iA M∧s 12= .d (.list false (us S))∧s 14=iA (mV (dA first) S (i-1))∧s 15= .sl H.length i 0 i∧s 16=iA i) M (by omega) (ay.db _ _ 15 25 3 (by decide) (by simp -implicitDefEqProofs only[↓reduceIte,go_sem,Nat.reduceLT,Nat.reduceEqDiff]) _) ?_ ?_ ?_
      ·rw[show(gF (dA first) S 0).map aq.enc=[]from rfl]
       refine⟨rfl,?_⟩
       simp -implicitDefEqProofs only[↓reduceIte,go_sem,Nat.reduceSub,Nat.reduceLT,Nat.reduceEqDiff,hm]
       rfl
      ·rintro i s H' hi hw2 ⟨rfl,t1,t12,t14,t15,t16⟩
       have hsu:=va (dA first) S i
       have hln:=gG (dA first) S i
       have hsn2:∀(L:List aq) z,L.map aq.enc++[[D.v (.int .i64 1),D.v (.int .i64 z),D.v (.string ⟨#[]⟩)]]=(L++[cG z]).map aq.enc:=fun L z=>by simp[aq.enc,cG,cP]
       by_cases h0:i=0
       ·subst h0
        have hsn2:=hsn2 (gF (dA first) S 0)
        rw[show(0:Nat)-1=0 from rfl]at t14
        rw[show(0:Nat)+1-1=0 from rfl,hsu]
        generalize gF (dA first) S 0=L at*
        generalize mV (dA first) S 0=y at*
        have hi0:(0<(M:Int))=True:=eq_true (by omega)
        simp -implicitDefEqProofs only[↓reduceIte,go_sem,Nat.reduceAdd,Nat.reduceLT,Nat.reduceLeDiff,Nat.reduceEqDiff,Int.reduceLT,Int.reduceAdd,t1,t14,t15,t16,hi0,List.length_map,hln,hsn2]
        refine c9.same ⟨?_,?_⟩
        ·simp -implicitDefEqProofs only[go_sem]
        ·simp -implicitDefEqProofs only[↓reduceIte,go_sem,Nat.reduceLT,Nat.reduceEqDiff,t1,t12,t14]
         rfl
       ·have hx:=iO S (i-1) (by omega)
        have hgd:S.getD (i-1) 0=S[i-1]'(by omega):=by simp[List.getD,show i-1<S.length by omega]
        have hsx:=hSl _ (List.getElem_mem (show i-1<S.length by omega))
        have hsn:IntKind.i64.wrap (mV (dA first) S (i-1)+dA (S[i-1]'(by omega)))=mV (dA first) S i:=by
         obtain⟨j,rfl⟩:∃j,i=j+1:=⟨i-1,by omega⟩
         rw[←hgd];rfl
        have hi0:(0<(i:Int))=True:=eq_true (by omega)
        have hw3:IntKind.i64.wrap ((i:Int)-1)=((i-1:Nat):Int):=by rw[wrap64_in _ (by omega) (by omega)];omega
        have hil:i-1<S.length:=by omega
        have hsn2:=hsn2 (gF (dA first) S i)
        rw[show i+1-1=i from rfl,hsu]
        generalize S[i-1]'(by omega)=x at*
        generalize mV (dA first) S (i-1)=y at*
        generalize mV (dA first) S i=z at*
        generalize gF (dA first) S i=L at*
        simp -implicitDefEqProofs only[↓reduceIte,go_sem,Nat.reduceLT,Nat.reduceEqDiff,t1,t12,t14,t16,hi,hi0,hw3,hx]
        refine ae.ok (pf x hsx _) ?_
        simp -implicitDefEqProofs only[↓reduceIte,go_sem,Nat.reduceAdd,Nat.reduceLT,Nat.reduceLeDiff,Nat.reduceEqDiff,t15,hsn,List.length_map,hln,hsn2]
        refine⟨by omega,by omega,?_⟩
        simp -implicitDefEqProofs only[↓reduceIte,go_sem,Nat.reduceLT,t16]
        refine c9.same ⟨?_,?_⟩
        ·simp -implicitDefEqProofs only[go_sem]
        ·simp -implicitDefEqProofs only[↓reduceIte,go_sem,Nat.reduceLT,Nat.reduceEqDiff,t1,t12,hw2]
      ·rintro s H' ⟨rfl,t1,t12,t14,t15,t16⟩
       simp -implicitDefEqProofs only[↓reduceIte,go_sem,Nat.reduceLT,Nat.reduceEqDiff,t1,t15,t16]
       refine aw.ret ?_
       simp -implicitDefEqProofs only[↓reduceIte,go_sem,Nat.reduceLT,Nat.reduceEqDiff]
       rw[show((gF (dA first) S M).map aq.enc).take M=(gF (dA first) S M).map aq.enc from bQ _ _ (by rw[List.length_map,gG])]
       simp[hw,hwd,fa,hM]
     ·have hwd':(((cw S:Nat):Int)=(w:Int))=False:=eq_false (by omega)
      simp -implicitDefEqProofs only[↓reduceIte,go_sem,Nat.reduceLT,Nat.reduceEqDiff,hww,hwd']
      refine aw.aI ?_
      simp -implicitDefEqProofs only[↓reduceIte,go_sem,Nat.reduceLT,Nat.reduceEqDiff]
      simp[hw,hwd,fa]
    ·rw[if_neg hue]at hu
     refine ae.ok hu ?_
     simp -implicitDefEqProofs only[↓reduceIte,go_sem,Nat.reduceLT,Nat.reduceEqDiff,hue]
     refine aw.aI ?_
     simp -implicitDefEqProofs only[↓reduceIte,go_sem,Nat.reduceLT,Nat.reduceEqDiff]
     simp[hw,hue,fa]
  ·simp -implicitDefEqProofs only[↓reduceIte,go_sem,Nat.reduceLT,Nat.reduceEqDiff,he]
   refine aw.aI ?_
   simp -implicitDefEqProofs only[↓reduceIte,go_sem,Nat.reduceLT,Nat.reduceEqDiff]
   simp[he,fa]
 ·simp -implicitDefEqProofs only[↓reduceIte,go_sem,Nat.reduceLT,Nat.reduceEqDiff,he]
  refine aw.aI ?_
  simp -implicitDefEqProofs only[↓reduceIte,go_sem,Nat.reduceLT,Nat.reduceEqDiff]
  simp[he,fa]
theorem tX(l:List aq)(hok:∀v∈l,eJ v.i)(nn:Bool)(H:aa)(hl:l.length≤1000000000000):ag Tryz.prog 139 [.d (.list nn (l.map aq.enc))] H (.ok (.bz [.d (.list false (aD (j4 l))),iA (aS l 1)])) H:=by
 have h:=vA l hok nn H hl
 unfold jZ at h
 unfold j4
 by_cases c:aS l 1=0∧l≠[]
 ·rw[if_pos c]at h⊢
  rw[c.1]
  exact h
 ·rw[if_neg c]at h⊢
  exact ag.bE h (.cons .nil (.cons (.refl _) .nil))
theorem BG(l:List aq)(k w:Int)(hls:∀v∈l,v.Ok)(hl:l.length≤1000000000)(H:aa):
  ag Tryz.prog 98 [.d (.list false (l.map aq.enc)),iA k,iA w] H (.ok (.bz [.d (.list false (aD (bU l k w).1)),iA (bU l k w).2])) H:=by
 have hok:∀v∈l,eJ v.i:=fun v hv=>(hls v hv).i
 have d1:=fun H=>pY l k false hok H (by omega)
 have d2:=fun H=>tA l k false hok H hl
 have d3:=fun H=>qP l k hls H hl
 have d4:=fun H=>tX l hok false H (by omega)
 unfold bU
 by_cases c1:w=1
 ·rw[if_pos c1]
  refine ag.aj (hint:=(fun _=>false)) Tryz.func98 (by kernel_rfl) rfl [6,7] (by kernel_rfl) (by decide) (by simp[Tryz.ntmps98]) ?_
  rw[Tryz.ntmps98]
  simp -implicitDefEqProofs only[↓reduceIte,go_sem,Nat.reduceLT,Nat.reduceEqDiff,reduceCtorEq,c1]
  refine ae.ok (d1 _) ?_
  simp -implicitDefEqProofs only[↓reduceIte,go_sem,Nat.reduceLT,Nat.reduceEqDiff]
  refine aw.aI ?_
  simp -implicitDefEqProofs only[↓reduceIte,go_sem,Nat.reduceLT,Nat.reduceEqDiff]
 rw[if_neg c1]
 by_cases c2:w=2
 ·rw[if_pos c2]
  refine ag.aj (hint:=(fun _=>false)) Tryz.func98 (by kernel_rfl) rfl [6,7] (by kernel_rfl) (by decide) (by simp[Tryz.ntmps98]) ?_
  rw[Tryz.ntmps98]
  simp -implicitDefEqProofs only[↓reduceIte,go_sem,Nat.reduceLT,Nat.reduceEqDiff,Int.reduceEq,reduceCtorEq,c2]
  refine ae.ok (d2 _) ?_
  simp -implicitDefEqProofs only[↓reduceIte,go_sem,Nat.reduceLT,Nat.reduceEqDiff]
  refine aw.aI ?_
  simp -implicitDefEqProofs only[↓reduceIte,go_sem,Nat.reduceLT,Nat.reduceEqDiff]
 rw[if_neg c2]
 by_cases c3:w=3
 ·rw[if_pos c3]
  refine ag.aj (hint:=(fun _=>false)) Tryz.func98 (by kernel_rfl) rfl [6,7] (by kernel_rfl) (by decide) (by simp[Tryz.ntmps98]) ?_
  rw[Tryz.ntmps98]
  simp -implicitDefEqProofs only[↓reduceIte,go_sem,Nat.reduceLT,Nat.reduceEqDiff,Int.reduceEq,reduceCtorEq,c3]
  refine ae.ok (d3 _) ?_
  simp -implicitDefEqProofs only[↓reduceIte,go_sem,Nat.reduceLT,Nat.reduceEqDiff]
  refine aw.aI ?_
  simp -implicitDefEqProofs only[↓reduceIte,go_sem,Nat.reduceLT,Nat.reduceEqDiff]
 rw[if_neg c3]
 by_cases c4:w=4∧k=1
 ·rw[if_pos c4]
  refine ag.aj (hint:=(fun _=>false)) Tryz.func98 (by kernel_rfl) rfl [6,7] (by kernel_rfl) (by decide) (by simp[Tryz.ntmps98]) ?_
  rw[Tryz.ntmps98]
  simp -implicitDefEqProofs only[↓reduceIte,go_sem,Nat.reduceLT,Nat.reduceEqDiff,Int.reduceEq,reduceCtorEq,c4.1,c4.2]
  refine ae.ok (d4 _) ?_
  simp -implicitDefEqProofs only[↓reduceIte,go_sem,Nat.reduceLT,Nat.reduceEqDiff]
  refine aw.aI ?_
  simp -implicitDefEqProofs only[↓reduceIte,go_sem,Nat.reduceLT,Nat.reduceEqDiff]
 rw[if_neg c4]
 refine ag.bE (cs:=[.d (.v (.slice none 0 0)),iA 1]) ?_ (.cons .nil (.cons (.refl _) .nil))
 refine ag.aj (hint:=(fun _=>false)) Tryz.func98 (by kernel_rfl) rfl [6,7] (by kernel_rfl) (by decide) (by simp[Tryz.ntmps98]) ?_
 rw[Tryz.ntmps98]
 by_cases c5:w=4
 ·have c6:¬k=1:=fun h=>c4 ⟨c5,h⟩
  simp -implicitDefEqProofs only[↓reduceIte,go_sem,Nat.reduceLT,Nat.reduceEqDiff,Int.reduceEq,c5,c6]
  refine aw.aI ?_
  simp -implicitDefEqProofs only[↓reduceIte,go_sem,Nat.reduceLT,Nat.reduceEqDiff]
 ·simp -implicitDefEqProofs only[↓reduceIte,go_sem,Nat.reduceLT,Nat.reduceEqDiff,c1,c2,c3,c5]
  refine aw.aI ?_
  simp -implicitDefEqProofs only[↓reduceIte,go_sem,Nat.reduceLT,Nat.reduceEqDiff]
theorem yL(b:List Nat)(n k w:Int)(hl:b.length≤140737488351232)(hb:∀c∈b,c<256)(H:aa):
  ag Tryz.prog 92 [.d (.list false (aD b)),iA n,iA k,iA w] H (.ok (.bz [.d (.list false ((gj b n k w).1.map aq.enc)),iA (gj b n k w).2])) H:=by
 have d1:=fun H=>tG b n k hl hb H
 have d2:=fun H=>Ad b n k hl hb H
 have d3:=fun H=>xc b n k hl hb H
 have d4:=fun H=>HI b n false hl hb H
 unfold gj
 by_cases c1:w=1
 ·rw[if_pos c1]
  refine ag.aj (hint:=(fun _=>false)) Tryz.func92 (by kernel_rfl) rfl [8,9] (by kernel_rfl) (by decide) (by simp[Tryz.ntmps92]) ?_
  rw[Tryz.ntmps92]
  simp -implicitDefEqProofs only[↓reduceIte,go_sem,Nat.reduceLT,Nat.reduceEqDiff,reduceCtorEq,c1]
  refine ae.ok (d1 _) ?_
  simp -implicitDefEqProofs only[↓reduceIte,go_sem,Nat.reduceLT,Nat.reduceEqDiff]
  refine aw.aI ?_
  simp -implicitDefEqProofs only[↓reduceIte,go_sem,Nat.reduceLT,Nat.reduceEqDiff]
 rw[if_neg c1]
 by_cases c2:w=2
 ·rw[if_pos c2]
  refine ag.aj (hint:=(fun _=>false)) Tryz.func92 (by kernel_rfl) rfl [8,9] (by kernel_rfl) (by decide) (by simp[Tryz.ntmps92]) ?_
  rw[Tryz.ntmps92]
  simp -implicitDefEqProofs only[↓reduceIte,go_sem,Nat.reduceLT,Nat.reduceEqDiff,Int.reduceEq,reduceCtorEq,c2]
  refine ae.ok (d2 _) ?_
  simp -implicitDefEqProofs only[↓reduceIte,go_sem,Nat.reduceLT,Nat.reduceEqDiff]
  refine aw.aI ?_
  simp -implicitDefEqProofs only[↓reduceIte,go_sem,Nat.reduceLT,Nat.reduceEqDiff]
 rw[if_neg c2]
 by_cases c3:w=3
 ·rw[if_pos c3]
  refine ag.aj (hint:=(fun _=>false)) Tryz.func92 (by kernel_rfl) rfl [8,9] (by kernel_rfl) (by decide) (by simp[Tryz.ntmps92]) ?_
  rw[Tryz.ntmps92]
  simp -implicitDefEqProofs only[↓reduceIte,go_sem,Nat.reduceLT,Nat.reduceEqDiff,Int.reduceEq,reduceCtorEq,c3]
  refine ae.ok (d3 _) ?_
  simp -implicitDefEqProofs only[↓reduceIte,go_sem,Nat.reduceLT,Nat.reduceEqDiff]
  refine aw.aI ?_
  simp -implicitDefEqProofs only[↓reduceIte,go_sem,Nat.reduceLT,Nat.reduceEqDiff]
 rw[if_neg c3]
 by_cases c4:w=4∧k=1
 ·rw[if_pos c4]
  have hsub:Sub (fa (mW b n).1) (.d (.list false (((mW b n).1.getD []).map aq.enc))):=by
   cases(mW b n).1 with
   |none=>exact .nil
   |some l=>exact .refl _
  refine ag.bE (cs:=[fa (mW b n).1,iA (mW b n).2]) ?_ (.cons hsub (.cons (.refl _) .nil))
  refine ag.aj (hint:=(fun _=>false)) Tryz.func92 (by kernel_rfl) rfl [8,9] (by kernel_rfl) (by decide) (by simp[Tryz.ntmps92]) ?_
  rw[Tryz.ntmps92]
  simp -implicitDefEqProofs only[↓reduceIte,go_sem,Nat.reduceLT,Nat.reduceEqDiff,Int.reduceEq,reduceCtorEq,c4.1,c4.2]
  refine ae.ok (d4 _) ?_
  simp -implicitDefEqProofs only[↓reduceIte,go_sem,Nat.reduceLT,Nat.reduceEqDiff]
  refine aw.aI ?_
  simp -implicitDefEqProofs only[↓reduceIte,go_sem,Nat.reduceLT,Nat.reduceEqDiff]
 rw[if_neg c4]
 refine ag.bE (cs:=[.d (.v (.slice none 0 0)),iA 1]) ?_ (.cons .nil (.cons (.refl _) .nil))
 refine ag.aj (hint:=(fun _=>false)) Tryz.func92 (by kernel_rfl) rfl [8,9] (by kernel_rfl) (by decide) (by simp[Tryz.ntmps92]) ?_
 rw[Tryz.ntmps92]
 by_cases c5:w=4
 ·have c6:¬k=1:=fun h=>c4 ⟨c5,h⟩
  simp -implicitDefEqProofs only[↓reduceIte,go_sem,Nat.reduceLT,Nat.reduceEqDiff,Int.reduceEq,c5,c6]
  refine aw.aI ?_
  simp -implicitDefEqProofs only[↓reduceIte,go_sem,Nat.reduceLT,Nat.reduceEqDiff]
 ·simp -implicitDefEqProofs only[↓reduceIte,go_sem,Nat.reduceLT,Nat.reduceEqDiff,c1,c2,c3,c5]
  refine aw.aI ?_
  simp -implicitDefEqProofs only[↓reduceIte,go_sem,Nat.reduceLT,Nat.reduceEqDiff]
theorem zH(l:List aq)(k:Int):∀n:Nat,(∀c:Int,1≤c→c≤n→(bU l k c).2=0→0≤(cX l k n).1∧(cX l k n).1≤((bU l k c).1.length:Int))∧
  (0≤(cX l k n).1→(cX l k n).1=((bU l k (cX l k n).2).1.length:Int))
 |0=>⟨fun c h1 h2=>by omega,fun h=>by exact absurd (show(0:Int)≤-1 from h) (by omega)⟩
 |n+1=>by
  obtain⟨h1,h2⟩:=zH l k n
  have hst:cX l k (n+1)=jH l k (cX l k n) ((n:Int)+1):=rfl
  rw[hst]
  generalize cX l k n=x at*
  unfold jH
  by_cases c:(bU l k ((n:Int)+1)).2=0∧(x.1<0∨((bU l k ((n:Int)+1)).1.length:Int)<x.1)
  ·rw[if_pos c]
   refine⟨fun d g1 g2 g3=>⟨by simp only;omega,?_⟩,fun _=>rfl⟩
   simp only
   by_cases hd:d=(n:Int)+1
   ·rw[hd];omega
   ·have:=h1 d g1 (by omega) g3
    omega
  ·rw[if_neg c]
   refine⟨fun d g1 g2 g3=>?_,h2⟩
   by_cases hd:d=(n:Int)+1
   ·subst hd
    have:=fun h=>c ⟨g3,h⟩
    omega
   ·exact h1 d g1 (by omega) g3
abbrev jG:AV:= .d (.v (.slice none 0 0))
def CQ(S:List aq)(k c:Int):D:=if c=0 then .v (.slice none 0 0)else .list false (aD (bU S k c).1)
theorem pG(S:List aq)(k:Int){c:Int}(h:c≠0):CQ S k c= .list false (aD (bU S k c).1):=if_neg h
theorem sG(S:List aq)(k:Int):∀n,((cX S k n).2=0∧(cX S k n).1=-1)∨(1≤(cX S k n).2∧(cX S k n).1=((bU S k (cX S k n).2).1.length:Int)∧(bU S k (cX S k n).2).2=0)
 |0=> .inl ⟨rfl,rfl⟩
 |n+1=>by
  have ih:=sG S k n
  have hst:cX S k (n+1)=jH S k (cX S k n) ((n:Int)+1):=rfl
  rw[hst]
  generalize cX S k n=x at*
  unfold jH
  split
  ·rename_i h
   exact .inr ⟨by simp only;omega,rfl,h.1⟩
  ·exact ih
theorem Ga{S:List aq}{k:Int}(h:aS S k=0):(cX S k 4).2≠0∧(bU S k (cX S k 4).2).2=0:=by
 have h1:=(zH S k 4).1 1 (by omega) (by omega) (by rw[show bU S k 1=(iI S k,aS S k)from if_pos rfl];exact h)
 rcases sG S k 4 with⟨_,h2⟩|⟨h2,_,h3⟩
 ·omega
 ·exact⟨by omega,h3⟩
theorem Gx(l:List aq)(k w:Int)(nn:Bool)(hls:∀v∈l,v.Ok)(hl:l.length≤1000000000)(hp:aS (aE l) k=0)(h4:l.length≤4096)(NC:D)(hN:(0<(bu l).aA∧NC= .list false (bF (bL l)))∨((bu l).aA=0∧NC= .v (.slice none 0 0)))(H:aa):
  ag Tryz.prog 54 [.d (.list nn (l.map aq.enc)),iA k,iA w] H (.ok (if w=0 then .bz [.agg ([iA k,iA (cX (aE l) k 4).2]++(bu l).cs++[.d NC,.d (CQ (aE l) k (cX (aE l) k 4).2)]),iA 0]
   else if(bU (aE l) k w).2≠0 then .bz [.agg ey,iA (bU (aE l) k w).2]else .bz [.agg ([iA k,iA w]++(bu l).cs++[.d NC,.d (.list false (aD (bU (aE l) k w).1))]),iA 0])) H:=by
 have hsp:=fun H=>jQ l nn hl H
 have hzd:=fun H=>AO l nn hl (fun v hv=>(hls v hv).s) H
 have hSs:∀v∈aE l,v.Ok:=fun v hv=>hls v (List.mem_filter.1 hv).1
 have hSl:(aE l).length≤l.length:=List.length_filter_le _ _
 have hpd:=fun H=>dT (aE l) k false H (by omega)
 have hbd:=fun w H=>BG (aE l) k w hSs (by omega) H
 have hbv:=sG (aE l) k
 have hst:∀n,cX (aE l) k (n+1)=jH (aE l) k (cX (aE l) k n) ((n:Int)+1):=fun n=>rfl
 have hb0:cX (aE l) k 0=(-1,0):=rfl
 rw[hp]at hpd
 generalize hzz:bu l=Z at*
 obtain⟨zr,zn,mn,mx⟩:=Z
 simp only[Zn.cs]at hzd hN⊢
 clear hzz hls hSs
 generalize bL l=ns at*
 generalize aE l=S at*
 have h4f:((4096:Int)<(l.length:Int))=False:=eq_false (by omega)
 refine ag.bj (hint:=fun _=>false) Tryz.func54 (by kernel_rfl) rfl [.cell 6 34,.tmp 7] (by kernel_rfl) (by simp[Tryz.ntmps54]) ?_
 rw[Tryz.ntmps54]
 simp -implicitDefEqProofs only[↓reduceIte,go_sem,Nat.reduceLT,reduceCtorEq]
 refine ae.ok (hsp _) ?_
 simp -implicitDefEqProofs only[↓reduceIte,go_sem,Nat.reduceLT,Nat.reduceEqDiff]
 refine ae.ok (hpd _) ?_
 simp -implicitDefEqProofs only[↓reduceIte,go_sem,Nat.reduceLT,Nat.reduceEqDiff,reduceCtorEq,List.length_map,h4f]
 refine ae.ok (hzd _) ?_
 obtain⟨b,hb,hb2⟩:∃b:Bool,(0<(zn:Int))=(b=true)∧NC=if b then .list false (bF ns)else .v (.slice none 0 0):=by
  rcases hN with⟨h,h'⟩|⟨h,h'⟩
  ·exact⟨true,by simp;omega,h'⟩
  ·exact⟨false,by simp;omega,h'⟩
 clear hN
 have hbi:=hbv
 cases b
 all_goals
  simp only[if_true,Bool.false_eq_true,if_false]at hb2
  simp -implicitDefEqProofs only[↓reduceIte,go_sem,ah,au,Nat.reduceAdd,Nat.reduceLT,Nat.reduceLeDiff,Nat.reduceEqDiff,hb,Bool.false_eq_true]
 all_goals
  by_cases hw0:w=0
  ·rw[if_pos hw0]
   subst hw0
   refine aP (fun j s H'=>H'=H++[.box 34 12 0 1 ey,.box 34 12 0 1 [iA k,iA (cX S k j).2,iA zr,iA zn,iA mn.kind,iA mn.i,sA mn.s,iA mx.kind,iA mx.i,sA mx.s,.d NC,.d (CQ S k (cX S k j).2)]]∧s 1=iA k∧s 2=iA 0∧s 6= .ptr H.length 0 0 0∧s 9= .d (.list false (S.map aq.enc))∧s 11= .ptr (H.length+1) 0 0 0∧s 12=iA ((j:Int)+1)) 4 (by omega) (ay.refl _ _) ?_ ?_ ?_
   ·refine⟨?_,?_⟩
    ·simp -implicitDefEqProofs only[↓reduceIte,go_sem,Int.reduceNeg,ey,hb0,hb2,CQ,cP]
    ·simp -implicitDefEqProofs only[↓reduceIte,go_sem,Nat.reduceLT,Nat.reduceEqDiff,Int.reduceAdd]
   ·rintro j s H' hj hw ⟨rfl,t1,t2,t6,t9,t11,t12⟩
    have hbv:=hbv j
    rw[hst]
    have hbj:=fun H=>hbd ((j:Int)+1) H
    obtain⟨cj,hcj⟩:∃cj:Int,cj=(j:Int)+1:=⟨_,rfl⟩
    have wc:IntKind.i64.wrap (cj+1)=cj+1:=wrap64_in _ (by omega) (by omega)
    have hc4:(cj≤4)=True:=eq_true (by omega)
    have hcj2:(j:Int)+1+1=cj+1:=by omega
    have hcn:cj≠0:=by omega
    rw[←hcj]at t12 hbj⊢
    generalize cX S k j=x at*
    obtain⟨x1,x2⟩:=x
    simp only at hbv
    have hbS:jH S k (x1,x2) cj=if(bU S k cj).2=0∧(x1<0∨((bU S k cj).1.length:Int)<x1)then(((bU S k cj).1.length:Int),cj)else(x1,x2):=rfl
    rw[hbS]
    have hbC:=pG S k hcn
    generalize hbp:bU S k cj=B at*
    obtain⟨B,e⟩:=B
    simp only at hbj hbS hbC⊢
    simp -implicitDefEqProofs only[↓reduceIte,go_sem,Nat.reduceLT,Nat.reduceEqDiff,t1,t2,t9,t12,hc4]
    refine ae.ok (hbj _) ?_
    by_cases he:e=0
    ·subst he
     rcases hbv with⟨v1,v2⟩|⟨v1,v2,v3⟩
     ·rw[if_pos ⟨rfl,.inl (by omega)⟩]
      subst v1
      simp -implicitDefEqProofs only[↓reduceIte,go_sem,ah,au,Nat.reduceAdd,Nat.reduceLT,Nat.reduceLeDiff,Nat.reduceEqDiff,t11,t12,wc]
      refine c9.same ⟨?_,?_⟩
      ·simp -implicitDefEqProofs only[go_sem,ey,hbC]
      ·simp -implicitDefEqProofs only[↓reduceIte,go_sem,Nat.reduceLT,Nat.reduceEqDiff,t1,t2,t6,t9,t11,hcj2]
     ·have hx2:¬x2=0:=by omega
      have hbx:=pG S k hx2
      by_cases hlt:(B.length:Int)<x1
      ·rw[if_pos ⟨rfl,.inr hlt⟩]
       simp -implicitDefEqProofs only[↓reduceIte,go_sem,ah,au,Nat.reduceAdd,Nat.reduceLT,Nat.reduceLeDiff,Nat.reduceEqDiff,reduceCtorEq,t11,t12,wc,hx2,hbx,ai,←v2,hlt]
       refine c9.same ⟨?_,?_⟩
       ·simp -implicitDefEqProofs only[go_sem,ey,hbC]
       ·simp -implicitDefEqProofs only[↓reduceIte,go_sem,Nat.reduceLT,Nat.reduceEqDiff,t1,t2,t6,t9,t11,hcj2]
      ·rw[if_neg (by rintro⟨_,h|h⟩<;>omega)]
       simp -implicitDefEqProofs only[↓reduceIte,go_sem,ah,Nat.reduceAdd,Nat.reduceLT,Nat.reduceLeDiff,Nat.reduceEqDiff,reduceCtorEq,t11,t12,wc,hx2,hbx,ai,←v2,hlt]
       refine c9.same ⟨?_,?_⟩
       ·simp -implicitDefEqProofs only[go_sem,ey]
       ·simp -implicitDefEqProofs only[↓reduceIte,go_sem,Nat.reduceLT,Nat.reduceEqDiff,t1,t2,t6,t9,t11,hcj2]
    ·rw[if_neg (fun h=>he h.1)]
     simp -implicitDefEqProofs only[↓reduceIte,go_sem,Nat.reduceLT,Nat.reduceEqDiff,reduceCtorEq,t12,he,wc]
     refine c9.same ⟨rfl,?_⟩
     simp -implicitDefEqProofs only[↓reduceIte,go_sem,Nat.reduceLT,Nat.reduceEqDiff,t1,t2,t6,t9,t11,hcj2]
   ·rintro s H' ⟨rfl,t1,t2,t6,t9,t11,t12⟩
    simp -implicitDefEqProofs only[↓reduceIte,go_sem,ah,au,Nat.reduceAdd,Nat.reduceLT,Nat.reduceEqDiff,Int.reduceLE,Int.reduceAdd,reduceCtorEq,t2,t11,t12,t6,ey]
    refine aZ.ret ?_
    simp -implicitDefEqProofs only[↓reduceIte,go_sem,ah,Nat.reduceAdd,Nat.reduceLT,Nat.reduceLeDiff,Nat.reduceEqDiff,aJ,a8,t6]
  ·rw[if_neg hw0]
   refine cl _ _ _ _ (fun(_:Unit) s H'=>H'=H++[.box 34 12 0 1 ey,.box 34 12 0 1 [iA k,iA w,iA zr,iA zn,iA mn.kind,iA mn.i,sA mn.s,iA mx.kind,iA mx.i,sA mx.s,.d NC,jG]]∧s 1=iA k∧s 2=iA w∧s 6= .ptr H.length 0 0 0∧s 9= .d (.list false (S.map aq.enc))∧s 11= .ptr (H.length+1) 0 0 0∧s 12=iA 1) (fun _=>0) () (ay.refl _ _) ?_ ?_
   ·refine⟨?_,?_⟩
    ·simp -implicitDefEqProofs only[go_sem,ey,hb2,cP]
    ·simp -implicitDefEqProofs only[↓reduceIte,go_sem,Nat.reduceLT,Nat.reduceEqDiff]
   ·rintro _ s H' ⟨rfl,t1,t2,t6,t9,t11,t12⟩
    simp -implicitDefEqProofs only[↓reduceIte,go_sem,Nat.reduceLT,Nat.reduceEqDiff,Int.reduceLE,t1,t2,t9,t12,hw0]
    refine ae.ok (hbd w _) ?_
    generalize bU S k w=B at*
    obtain⟨B,e⟩:=B
    by_cases he:e=0
    ·subst he
     rw[if_neg (by simp)]
     simp -implicitDefEqProofs only[↓reduceIte,go_sem,ah,au,Nat.reduceAdd,Nat.reduceLT,Nat.reduceEqDiff,t6,t11,ey]
     refine aZ.ret ?_
     simp -implicitDefEqProofs only[↓reduceIte,go_sem,ah,Nat.reduceAdd,Nat.reduceLT,Nat.reduceLeDiff,Nat.reduceEqDiff,aJ,a8,t6]
    ·rw[if_pos he]
     simp -implicitDefEqProofs only[↓reduceIte,go_sem,au,Nat.reduceAdd,Nat.reduceLT,Nat.reduceEqDiff,he,t6,ey]
     refine aZ.ret ?_
     simp -implicitDefEqProofs only[↓reduceIte,go_sem,ah,Nat.reduceAdd,Nat.reduceLT,Nat.reduceLeDiff,Nat.reduceEqDiff,aJ,a8,t6]
     simp -implicitDefEqProofs only[go_sem,cP]
theorem By(l:List aq)(k w:Int)(nn:Bool)(hls:∀v∈l,v.Ok)(hl:l.length≤1000000000)(H:aa):
  ag Tryz.prog 54 [.d (.list nn (l.map aq.enc)),iA k,iA w] H (.ok (.bz [.agg (ee l k w).1.cs,iA (ee l k w).2])) H:=by
 have hcs:=jB l
 have hnu:=gq l
 have hSl:(aE l).length≤l.length:=List.length_filter_le _ _
 by_cases hp:aS (aE l) k≠0
 ·rw[show ee l k w=(jI,aS (aE l) k)from if_pos hp]
  have hsp:=fun H=>jQ l nn hl H
  have hpd:=fun H=>dT (aE l) k false H (by omega)
  refine ag.bE (cs:=[.agg ey,iA (aS (aE l) k)]) ?_ (.cons fJ (.cons (.refl _) .nil))
  generalize aE l=S at*
  refine ag.bj (hint:=fun _=>false) Tryz.func54 (by kernel_rfl) rfl [.cell 6 34,.tmp 7] (by kernel_rfl) (by simp[Tryz.ntmps54]) ?_
  rw[Tryz.ntmps54]
  simp -implicitDefEqProofs only[↓reduceIte,go_sem,Nat.reduceLT,reduceCtorEq]
  refine ae.ok (hsp _) ?_
  simp -implicitDefEqProofs only[↓reduceIte,go_sem,Nat.reduceLT,Nat.reduceEqDiff]
  refine ae.ok (hpd _) ?_
  simp -implicitDefEqProofs only[↓reduceIte,go_sem,au,Nat.reduceAdd,Nat.reduceLT,Nat.reduceEqDiff,hp]
  refine aZ.ret ?_
  simp -implicitDefEqProofs only[↓reduceIte,go_sem,ah,Nat.reduceAdd,Nat.reduceLT,Nat.reduceLeDiff,Nat.reduceEqDiff,aJ,a8,ey,cP]
 have hp:aS (aE l) k=0:=by simpa using hp
 have e0:ee l k w=_:=if_neg (by simp[hp])
 by_cases h4:4096<l.length
 ·rw[if_pos h4]at e0
  rw[e0]
  have hsp:=fun H=>jQ l nn hl H
  have hpd:=fun H=>dT (aE l) k false H (by omega)
  rw[hp]at hpd
  refine ag.bE (cs:=[.agg ey,iA 2]) ?_ (.cons fJ (.cons (.refl _) .nil))
  generalize aE l=S at*
  refine ag.bj (hint:=fun _=>false) Tryz.func54 (by kernel_rfl) rfl [.cell 6 34,.tmp 7] (by kernel_rfl) (by simp[Tryz.ntmps54]) ?_
  rw[Tryz.ntmps54]
  simp -implicitDefEqProofs only[↓reduceIte,go_sem,Nat.reduceLT,reduceCtorEq]
  refine ae.ok (hsp _) ?_
  simp -implicitDefEqProofs only[↓reduceIte,go_sem,Nat.reduceLT,Nat.reduceEqDiff]
  refine ae.ok (hpd _) ?_
  simp -implicitDefEqProofs only[↓reduceIte,go_sem,au,Nat.reduceAdd,Nat.reduceLT,Nat.reduceEqDiff,reduceCtorEq,List.length_map,show((4096:Int)<(l.length:Int))=True from eq_true (by omega)]
  refine aZ.ret ?_
  simp -implicitDefEqProofs only[↓reduceIte,go_sem,ah,Nat.reduceAdd,Nat.reduceLT,Nat.reduceLeDiff,Nat.reduceEqDiff,aJ,a8,ey,cP]
 rw[if_neg h4]at e0
 obtain⟨NC,hN,hNs⟩:∃NC:D,((0<(bu l).aA∧NC= .list false (bF (bL l)))∨((bu l).aA=0∧NC= .v (.slice none 0 0)))∧Sub (.d NC) (.d (.list false (bF (bY l)))):=by
  unfold bY
  by_cases c:(bu l).aA=0
  ·exact⟨_,.inr ⟨c,rfl⟩,by rw[if_pos (by omega)];exact .nil⟩
  ·exact⟨_,.inl ⟨by omega,rfl⟩,by rw[if_neg (by omega)];exact .refl _⟩
 have hm:=Gx l k w nn hls hl hp (by omega) NC hN H
 obtain⟨b1,b2⟩:=Ga hp
 by_cases hw:w=0
 ·have hwh:bX l k w=(cX (aE l) k 4).2:=if_pos hw
  rw[hwh,if_neg (by simp[b2])]at e0
  rw[if_pos hw,pG _ _ b1]at hm
  rw[e0]
  exact ag.bE hm (.cons (.agg (.cons (.refl _) (.cons (.refl _) (.cons (.refl _) (.cons (.refl _) (.cons (.refl _) (.cons (.refl _) (.cons (.refl _) (.cons (.refl _) (.cons (.refl _) (.cons (.refl _) (.cons hNs (.cons (.refl _) .nil))))))))))))) (.cons (.refl _) .nil))
 ·have hwh:bX l k w=w:=if_neg hw
  rw[hwh]at e0
  rw[if_neg hw]at hm
  by_cases c:(bU (aE l) k w).2≠0
  ·rw[if_pos c]at e0 hm
   rw[e0]
   exact ag.bE hm (.cons fJ (.cons (.refl _) .nil))
  ·rw[if_neg c]at e0 hm
   rw[e0]
   exact ag.bE hm (.cons (.agg (.cons (.refl _) (.cons (.refl _) (.cons (.refl _) (.cons (.refl _) (.cons (.refl _) (.cons (.refl _) (.cons (.refl _) (.cons (.refl _) (.cons (.refl _) (.cons (.refl _) (.cons hNs (.cons (.refl _) .nil))))))))))))) (.cons (.refl _) .nil))
theorem ue(H xs ys:aa):Ext (H++xs) (H++(xs++ys)):=by rw[←List.append_assoc];exact Ext.app _ _
theorem wR(l:List Bool)(nn:Bool)(hl:l.length≤100000000)(H:aa):ag Tryz.prog 99 [.d (.list nn (bF l))] H (.ok (.d (.list false (aD (bR l))))) H:=by
 have h:=fun H=>qa l nn hl H
 have e:kL l=bF l:=rfl
 rw[e]at h
 refine ag.aj (hint:=(fun _=>false)) Tryz.func99 (by kernel_rfl) rfl [2] (by kernel_rfl) (by decide) (by simp[Tryz.ntmps99]) ?_
 rw[Tryz.ntmps99]
 simp -implicitDefEqProofs only[↓reduceIte,go_sem,Nat.reduceLT,reduceCtorEq]
 refine ae.ok (h _) ?_
 simp -implicitDefEqProofs only[↓reduceIte,go_sem,Nat.reduceLT]
 refine aw.aI ?_
 simp -implicitDefEqProofs only[↓reduceIte,go_sem,Nat.reduceLT]
theorem tV(s:Sg)(k c:Nat)(hk:s.kind=(k:Int))(hc:s.bf=(c:Int))(hk2:k≤1000000)(hc2:c≤1000000)(hr:s.aU.rows≤1000000000)(hn:s.aU.aA≤1000000000)(hnl:s.aA.length≤1000000)(hbl:s.body.length≤900000000)
  (hi:(eJ s.aU.mn.i∧cA s.aU.mn=true)∧eJ s.aU.mx.i∧cA s.aU.mx=true) (H:aa):
  ag Tryz.prog 55 [.agg s.cs] H (.ok (.d (.list false (aD (eK k c s))))) H:=by
 have hv1:=fun H=>fB s.aU.mn hi.1.1 hi.1.2 H
 have hv2:=fun H=>fB s.aU.mx hi.2.1 hi.2.2 H
 have hnb:=fun H=>wR s.aA false (by omega) H
 have hpl:(bR s.aA).length≤1000000:=by rw[cH];omega
 have hll1:=dk hi.1.1 hi.1.2
 have hll2:=dk hi.2.1 hi.2.2
 have hcs:s.cs=[iA k,iA c,iA s.aU.rows,iA s.aU.aA,iA s.aU.mn.kind,iA s.aU.mn.i,sA s.aU.mn.s,iA s.aU.mx.kind,iA s.aU.mx.i,sA s.aU.mx.s,.d (.list false (bF s.aA)),.d (.list false (aD s.body))]:=by unfold Sg.cs;rw[hk,hc]
 rw[hcs]
 unfold eK
 generalize bR s.aA=PB at*
 generalize cW s.aU.mn=V1 at*
 generalize cW s.aU.mx=V2 at*
 generalize s.body=BD at*
 generalize s.aA=NL at*
 generalize s.aU.mn=mn at*
 generalize s.aU.mx=mx at*
 generalize s.aU.rows=rw at*
 generalize s.aU.aA=nu at*
 clear hcs hk hc hi
 obtain⟨Q,hQ⟩:∃Q,Q=[k,c,rw,nu]:=⟨_,rfl⟩
 have hQl:Q.length=4:=by rw[hQ];rfl
 have hQb:∀n∈Q,n≤1000000000:=fun n hn'=>by rw[hQ]at hn';simp only[List.mem_cons,List.not_mem_nil,or_false]at hn';omega
 have hnr:lb Q=[[D.v (.int .i64 (k:Int))],[.v (.int .i64 (c:Int))],[.v (.int .i64 (rw:Int))],[.v (.int .i64 (nu:Int))]]:=by rw[hQ];rfl
 have hNl:∀j,j≤4→(eD (Q.take j)).length≤j* 11:=by
  intro j
  induction j with
  |zero=>intro _;simp[eD]
  |succ j ih=>
   intro hj
   have hj':j<Q.length:=by omega
   rw[List.take_succ_eq_append_getElem hj',lg,List.length_append]
   have h1:=ih (by omega)
   have h2:=bD 10 Q[j] (by have:=hQb _ (List.getElem_mem hj');omega)
   omega
 rw[←hQ]
 have hone:∀M:List Nat,∀c∈aD M,c.length=1:=fun M c hc=>by obtain⟨n,_,rfl⟩:=List.mem_map.1 hc;rfl
 refine ag.aj (hint:=(fun _=>false)) Tryz.func55 (by kernel_rfl) rfl [2] (by kernel_rfl) (by decide) (by simp[Tryz.ntmps55]) ?_
 rw[Tryz.ntmps55]
 simp -implicitDefEqProofs only[↓reduceIte,go_sem,ah,Nat.reduceAdd,Nat.reduceLT,Nat.reduceLeDiff,Nat.reduceEqDiff]
 rw[←hnr]
 refine aP (fun j s H'=>∃ver,H'=H++[.box 34 12 0 1 [iA k,iA c,iA rw,iA nu,iA mn.kind,iA mn.i,sA mn.s,iA mx.kind,iA mx.i,sA mx.s,.d (.list false (bF NL)),.d (.list false (aD BD))],.arr 5 1 ver (aD (eD (Q.take j)))]∧s 1= .ptr H.length 0 0 0∧s 3= .sl (H.length+1) ver 0 (eD (Q.take j)).length∧s 4= .d (.list true (lb Q))∧s 5=iA j) 4 (by omega) (ay.db _ _ 3 5 1 (by decide) (by simp -implicitDefEqProofs only[↓reduceIte,go_sem,Nat.reduceLT,Nat.reduceEqDiff]) _) ?_ ?_ ?_
 ·refine⟨0,by simp[eD,aD],?_⟩
  simp -implicitDefEqProofs only[↓reduceIte,go_sem,Nat.reduceLT,Nat.reduceEqDiff]
  rfl
 ·rintro j s H' hj hw ⟨ver,rfl,t1,t3,t4,t5⟩
  have hj':j<Q.length:=by omega
  have hx:(lb Q)[j]?=some [.v (.int .i64 (Q[j]:Int))]:=by simp[lb,hj']
  have hb:=hNl j (by omega)
  have hq:=hQb _ (List.getElem_mem hj')
  have e1:eD (Q.take (j+1))=eD (Q.take j)++bp Q[j]:=by rw[List.take_succ_eq_append_getElem hj',lg]
  have hpd:=fun H=>mI Q[j] (by omega) H
  have hpl:=bD 10 Q[j] (by omega)
  have wn:IntKind.u64.wrap (Q[j]:Int)=(Q[j]:Int):=aK _ (by omega)
  have hQj:(j:Int)<((lb Q).length:Int):=by simp[lb];omega
  rw[e1]
  generalize eD (Q.take j)=B at*
  generalize Q[j]=n at*
  generalize bp n=p at*
  simp -implicitDefEqProofs only[↓reduceIte,go_sem,Nat.reduceLT,Nat.reduceEqDiff,t3,t4,t5,hx,wn,show((j:Int)<4)=True from eq_true (by omega)]
  refine ae.ok (hpd _) ?_
  simp -implicitDefEqProofs only[↓reduceIte,go_sem,Nat.reduceLT,Nat.reduceEqDiff,t5,aL,ai,dh,hw]
  refine⟨by omega,by omega,?_⟩
  refine c9.same ⟨ver+1,rfl,?_⟩
  simp -implicitDefEqProofs only[↓reduceIte,go_sem,Nat.reduceLT,Nat.reduceEqDiff,t1,t4]
 ·rintro s H' ⟨ver,rfl,t1,t3,t4,t5⟩
  rw[show Q.take 4=Q from List.take_of_length_le (by omega)]at*
  have hN4:=hNl 4 (by omega)
  rw[show Q.take 4=Q from List.take_of_length_le (by omega)]at hN4
  generalize eD Q=N at*
  simp -implicitDefEqProofs only[↓reduceIte,go_sem,ah,Nat.reduceAdd,Nat.reduceLT,Nat.reduceLeDiff,Nat.reduceEqDiff,Int.reduceLT,t1,t3,t5]
  refine ae.ok (hnb _) ?_
  simp -implicitDefEqProofs only[↓reduceIte,go_sem,ah,Nat.reduceAdd,Nat.reduceLT,Nat.reduceLeDiff,Nat.reduceEqDiff,t1,aL,ai,dh]
  refine⟨by omega,by omega,?_⟩
  refine ae.ok (hv1 _) ?_
  simp -implicitDefEqProofs only[↓reduceIte,go_sem,ah,Nat.reduceAdd,Nat.reduceLT,Nat.reduceLeDiff,Nat.reduceEqDiff,t1]
  refine ae.ok (hv2 _) ?_
  simp -implicitDefEqProofs only[↓reduceIte,go_sem,Nat.reduceLT,Nat.reduceEqDiff]
  refine dK [some false,some false,some true,some false,some true,none,none,some true] 2 (H++[.box 34 12 0 1 [iA k,iA c,iA rw,iA nu,iA mn.kind,iA mn.i,sA mn.s,iA mx.kind,iA mx.i,sA mx.s,.d (.list false (bF NL)),.d (.list false (aD BD))]]) K.mixed (by kernel_rfl) (by kernel_rfl) (by kernel_rfl) (ue H [_] [_]) ?_
  simp -implicitDefEqProofs only[↓reduceIte,go_sem,ah,Nat.reduceAdd,Nat.reduceLT,Nat.reduceEqDiff,t1,aL,ai,dh]
  refine⟨by omega,by omega,ue H [_] [_],by omega,by omega,by omega,ue H [_] [_],by omega,by omega,by omega,ue H [_] [_],?_⟩
  refine aw.ret ?_
  simp -implicitDefEqProofs only[↓reduceIte,go_sem,Nat.reduceLT,List.append_assoc]
  rw[bQ _ _ (by rw[ai];simp[Nat.add_assoc])]
theorem wv(s:Sg)(hr:s.aU.rows≤1000000)(hn:s.aA.length≤1000000)(hb:∀x∈s.body,x<256)(hl:s.body.length≤140737488351232)(hL:(gj s.body ((s.aU.rows:Int)-(aC s.aA:Int)) s.kind s.bf).1.length≤1000000000)(H:aa):
  ag Tryz.prog 53 [.agg s.cs] H (.ok (.bz [.d (.list false ((dr s).1.map aq.enc)),iA (dr s).2])) H:=by
 obtain⟨k,w,⟨zr,zn,zmn,zmx⟩,ns,b⟩:=s
 simp only at hr hn hb hl hL
 unfold dr
 simp only
 have hcd:=fun H=>qd ns false (by omega) H
 have hcl:=ef ns
 have hgd:=fun H=>yL b ((zr:Int)-(aC ns:Int)) k w hl hb H
 have hwr:IntKind.i64.wrap ((zr:Int)-(aC ns:Int))=(zr:Int)-(aC ns:Int):=wrap64_in _ (by omega) (by omega)
 generalize gj b ((zr:Int)-(aC ns:Int)) k w=q at*
 obtain⟨L,e⟩:=q
 simp only at hgd hL
 have hjd:=fun H=>AY ns L false false hn hL H
 refine ag.aj (hint:=(fun _=>false)) Tryz.func53 (by kernel_rfl) rfl [2,3] (by kernel_rfl) (by decide) (by simp[Tryz.ntmps53]) ?_
 rw[Tryz.ntmps53]
 simp -implicitDefEqProofs only[↓reduceIte,go_sem,Nat.reduceAdd,Nat.reduceLT,Sg.cs]
 refine aO K.mixed (by kernel_rfl) ?_
 simp -implicitDefEqProofs only[↓reduceIte,go_sem,ah,Nat.reduceAdd,Nat.reduceLT,Nat.reduceLeDiff,Nat.reduceEqDiff]
 refine ae.ok (hcd _) ?_
 simp -implicitDefEqProofs only[↓reduceIte,go_sem,ah,Nat.reduceAdd,Nat.reduceLT,Nat.reduceLeDiff,Nat.reduceEqDiff,hwr]
 refine ae.ok (hgd _) ?_
 by_cases he:e≠0
 ·rw[if_pos (.inl he)]
  simp -implicitDefEqProofs only[↓reduceIte,go_sem,Nat.reduceLT,Nat.reduceEqDiff,he]
  refine aw.ret ?_
  simp -implicitDefEqProofs only[↓reduceIte,go_sem,Nat.reduceLT,Nat.reduceEqDiff]
 ·obtain rfl:e=0:=by simpa using he
  by_cases h0:ns=[]
  ·rw[if_pos (.inr h0)]
   subst h0
   simp -implicitDefEqProofs only[↓reduceIte,go_sem,ah,Nat.reduceAdd,Nat.reduceLT,Nat.reduceLeDiff,Nat.reduceEqDiff,reduceCtorEq,bP,List.length_nil]
   refine aw.ret ?_
   simp -implicitDefEqProofs only[↓reduceIte,go_sem,Nat.reduceLT,Nat.reduceEqDiff]
  ·rw[if_neg (by rintro(h|h);exact h rfl;exact h0 h)]
   have hz:((ns.length:Int)=0)=False:=eq_false (by have:=List.length_pos_iff.2 h0;omega)
   simp -implicitDefEqProofs only[↓reduceIte,go_sem,ah,Nat.reduceAdd,Nat.reduceLT,Nat.reduceLeDiff,Nat.reduceEqDiff,reduceCtorEq,bP,hz]
   refine ae.ok (hjd _) ?_
   simp -implicitDefEqProofs only[↓reduceIte,go_sem,Nat.reduceLT,Nat.reduceEqDiff]
   refine aw.ret ?_
   simp -implicitDefEqProofs only[↓reduceIte,go_sem,Nat.reduceLT,Nat.reduceEqDiff]
def pL(g:Sg×List Nat×Int):List AV:=g.1.cs++[.d (.list false (aD g.2.1)),iA g.2.2]
def jV(kn cn zr zn:Nat):Sg:=⟨kn,cn,⟨zr,zn,⟨0,0,cP⟩,⟨0,0,cP⟩⟩,[],[]⟩
noncomputable def tc(s:Sg)(b:List Nat):Sg×List Nat×Int:=if(cQ s b).2.2≠0 then(jI,[],(cQ s b).2.2)else(⟨(cQ s b).1.kind,(cQ s b).1.bf,(cQ s b).1.aU,(cQ s b).1.aA,(cQ s b).2.1⟩,[],0)
def fR(e:Int):List AV:=[iA 0,iA 0,iA 0,iA 0,iA 0,iA 0,sA cP,iA 0,iA 0,sA cP,jG,jG,jG,iA e]
theorem r6(e:Int):Sub (.agg (fR e)) (.agg (pL (jI,[],e))):=
 .agg (.cons (.refl _) (.cons (.refl _) (.cons (.refl _) (.cons (.refl _) (.cons (.refl _) (.cons (.refl _) (.cons (.refl _) (.cons (.refl _) (.cons (.refl _) (.cons (.refl _) (.cons .nil (.cons .nil (.cons .nil (.cons (.refl _) .nil))))))))))))))
theorem wK(kn cn zr zn:Nat)(b:List Nat)(hzr:zr≤4096)(hzn:zn≤zr)(hb:∀c∈b,c<256)(hl:b.length≤140737488351232)(H:aa):
  ag Tryz.prog 52 [.agg [iA kn,iA cn,iA zr,iA zn,iA 0,iA 0,sA ⟨#[]⟩,iA 0,iA 0,sA ⟨#[]⟩,jG,jG],.d (.list false (aD b))] H (.ok (.agg (pL (tc (jV kn cn zr zn) b)))) H:=by
 have w7:IntKind.i64.wrap ((zr:Int)+7)=((zr+7:Nat):Int):=by rw[wrap64_in _ (by omega) (by omega)];omega
 obtain⟨n8,hn8⟩:∃n8,n8=(zr+7)/8:=⟨_,rfl⟩
 have d8:((zr+7:Nat):Int).tdiv 8=(n8:Int):=by rw[hn8];exact(Int.ofNat_tdiv (zr+7) 8).symm
 have w8:IntKind.i64.wrap (n8:Int)=(n8:Int):=wrap64_in _ (by omega) (by omega)
 have hR:cQ (jV kn cn zr zn) b=if zn=0 then iS (jV kn cn zr zn) b else if b.length<n8 then(jV kn cn zr zn,[],3)else if bq (b.take n8) zr 1≠0 then(fI (jV kn cn zr zn) [],[],bq (b.take n8) zr 1)else iS (fI (jV kn cn zr zn) (qX (b.take n8) zr)) (b.drop n8):=by rw[hn8];rfl
 have bad:∀e:Int,(cQ (jV kn cn zr zn) b).2.2=e→e≠0→(∀H,ag Tryz.prog 52 [.agg [iA kn,iA cn,iA zr,iA zn,iA 0,iA 0,sA ⟨#[]⟩,iA 0,iA 0,sA ⟨#[]⟩,jG,jG],.d (.list false (aD b))] H (.ok (.agg (fR e))) H)→ag Tryz.prog 52 [.agg [iA kn,iA cn,iA zr,iA zn,iA 0,iA 0,sA ⟨#[]⟩,iA 0,iA 0,sA ⟨#[]⟩,jG,jG],.d (.list false (aD b))] H (.ok (.agg (pL (tc (jV kn cn zr zn) b)))) H:=by
  intro e he h0 h
  unfold tc
  rw[he,if_pos h0]
  exact(h H).Ey (r6 e)
 generalize hsum:((zr+7:Nat):Int)=z7 at*
 have hnd:=fun H=>Ef (b.take n8) zr (by rw[List.length_take];omega) (fun x hx=>hb x (List.mem_of_mem_take hx)) (by omega) H
 have cz:=fun H=>hnd H
 by_cases c0:0<zn∧b.length<n8
 ·have h0:¬zn=0:=by omega
  rw[if_neg h0,if_pos c0.2]at hR
  refine bad 3 (by rw[hR]) (by decide) fun H=>?_
  refine ag.bj (hint:=fun _=>false) Tryz.func52 (by kernel_rfl) rfl [.cell 4 36] (by kernel_rfl) (by simp[Tryz.ntmps52]) ?_
  rw[Tryz.ntmps52]
  simp -implicitDefEqProofs only[↓reduceIte,go_sem,ah,au,Nat.reduceAdd,Nat.reduceLT,Nat.reduceLeDiff,Nat.reduceEqDiff,Int.reduceEq,show(0<(zn:Int))=True from eq_true (by omega),w7,d8,w8,ai,show((b.length:Int)<(n8:Int))=True from eq_true (by omega)]
  refine aZ.ret ?_
  simp -implicitDefEqProofs only[↓reduceIte,go_sem,ah,Nat.reduceAdd,Nat.reduceLT,Nat.reduceLeDiff,Nat.reduceEqDiff,aJ,a8,fR,cP]
 by_cases c1:0<zn∧bq (b.take n8) zr 1≠0
 ·have h0:¬zn=0:=by omega
  have h2:¬b.length<n8:=fun h=>c0 ⟨c1.1,h⟩
  rw[if_neg h0,if_neg h2,if_pos c1.2]at hR
  refine bad (bq (b.take n8) zr 1) (by rw[hR]) c1.2 fun H=>?_
  have c12:=c1.2
  have htk:List.take n8 (aD b)=aD (b.take n8):=by unfold aD;rw[List.map_take]
  rw[if_neg c12]at hnd
  generalize bq (b.take n8) zr 1=e at*
  refine ag.bj (hint:=fun _=>false) Tryz.func52 (by kernel_rfl) rfl [.cell 4 36] (by kernel_rfl) (by simp[Tryz.ntmps52]) ?_
  rw[Tryz.ntmps52]
  simp -implicitDefEqProofs only[↓reduceIte,go_sem,ah,Nat.reduceAdd,Nat.reduceLT,Nat.reduceLeDiff,Nat.reduceEqDiff,Int.reduceEq,show(0<(zn:Int))=True from eq_true (by omega),w7,d8,w8,ai,show((b.length:Int)<(n8:Int))=False from eq_false (by omega)]
  refine aO K.mixed (by kernel_rfl) ?_
  simp -implicitDefEqProofs only[↓reduceIte,go_sem,ah,Nat.reduceAdd,Nat.reduceLT,Nat.reduceLeDiff,Nat.reduceEqDiff,Int.reduceLE,Int.reduceToNat,aL,ai,htk]
  refine⟨by omega,?_⟩
  refine ae.ok (hnd _) ?_
  simp -implicitDefEqProofs only[↓reduceIte,go_sem,au,Nat.reduceAdd,Nat.reduceLT,Nat.reduceEqDiff,c12]
  refine aZ.ret ?_
  simp -implicitDefEqProofs only[↓reduceIte,go_sem,ah,Nat.reduceAdd,Nat.reduceLT,Nat.reduceLeDiff,Nat.reduceEqDiff,aJ,a8,fR,cP]
 have hall:∃(b1:List Nat) (NS:List Bool) (ND:D),cQ (jV kn cn zr zn) b=iS ⟨kn,cn,⟨zr,zn,⟨0,0,cP⟩,⟨0,0,cP⟩⟩,NS,[]⟩ b1∧Sub (.d ND) (.d (.list false (bF NS)))∧(∀c∈b1,c<256)∧b1.length≤140737488351232∧
   ((zn=0∧b1=b∧ND= .v (.slice none 0 0))∨(0<zn∧n8≤b.length∧List.drop n8 (aD b)=aD b1∧ND= .list false (bF NS)∧∀H,ag Tryz.prog 90 [.d (.list false (aD (b.take n8))),iA zr] H (.ok (.bz [.d (.list false (bF NS)),iA 0])) H)):=by
  by_cases h0:zn=0
  ·exact⟨b,[],.v (.slice none 0 0),by rw[hR,if_pos h0];rfl,.nil,hb,hl,.inl ⟨h0,rfl,rfl⟩⟩
  ·have h2:¬b.length<n8:=fun h=>c0 ⟨by omega,h⟩
   have h3:¬bq (b.take n8) zr 1≠0:=fun h=>c1 ⟨by omega,h⟩
   have h4:bq (b.take n8) zr 1=0:=by simpa using h3
   refine⟨b.drop n8,qX (b.take n8) zr,_,by rw[hR,if_neg h0,if_neg h2,if_neg h3];rfl,.refl _,fun c hc=>hb c (List.mem_of_mem_drop hc),by rw[List.length_drop];omega,.inr ⟨by omega,by omega,by unfold aD;rw[List.map_drop],rfl,fun H=>?_⟩⟩
   have:=hnd H
   rw[h4,if_pos rfl]at this
   exact this
 obtain⟨b1,NS,ND,hR1,hSub,hb1,hl1,hpath⟩:=hall
 have htk:List.take n8 (aD b)=aD (b.take n8):=by unfold aD;rw[List.map_take]
 clear hR cz hnd c0 c1 hn8
 have v1:=fun H=>mz b1 kn hl1 hb1 H
 unfold iS at hR1
 simp only at hR1
 obtain⟨j1,hj1⟩:=eA b1 kn
 generalize hx1:ej b1 (kn:Int)=x1 at*
 obtain⟨mn,r1,e1⟩:=x1
 simp only at v1 hj1 hR1
 have v2:=fun H=>mz r1 kn (by rw[hj1,List.length_drop];omega) (fun x hx=>hb1 x (by rw[hj1]at hx;exact List.mem_of_mem_drop hx)) H
 generalize hx2:ej r1 (kn:Int)=x2 at*
 obtain⟨mx,r2,e2⟩:=x2
 simp only at v2 hR1
 have hres:∀RES:AV,RES=(if zn=zr then .agg [iA kn,iA cn,iA zr,iA zn,iA 0,iA 0,sA cP,iA 0,iA 0,sA cP,.d ND,.d (.list false (aD b1)),jG,iA 0]else if e1≠0 then .agg (fR e1)else if e2≠0 then .agg (fR e2)else .agg [iA kn,iA cn,iA zr,iA zn,iA mn.kind,iA mn.i,sA mn.s,iA mx.kind,iA mx.i,sA mx.s,.d ND,.d (.list false (aD r2)),jG,iA 0])→(∀H,ag Tryz.prog 52 [.agg [iA kn,iA cn,iA zr,iA zn,iA 0,iA 0,sA ⟨#[]⟩,iA 0,iA 0,sA ⟨#[]⟩,jG,jG],.d (.list false (aD b))] H (.ok RES) H)→ag Tryz.prog 52 [.agg [iA kn,iA cn,iA zr,iA zn,iA 0,iA 0,sA ⟨#[]⟩,iA 0,iA 0,sA ⟨#[]⟩,jG,jG],.d (.list false (aD b))] H (.ok (.agg (pL (tc (jV kn cn zr zn) b)))) H:=by
  intro RES hRES h
  by_cases k1:zn=zr
  ·rw[if_pos k1]at hRES hR1
   unfold tc
   rw[hR1,if_neg (by simp)]
   subst hRES
   exact(h H).Ey (.agg (.cons (.refl _) (.cons (.refl _) (.cons (.refl _) (.cons (.refl _) (.cons (.refl _) (.cons (.refl _) (.cons (.refl _) (.cons (.refl _) (.cons (.refl _) (.cons (.refl _) (.cons hSub (.cons (.refl _) (.cons .nil (.cons (.refl _) .nil)))))))))))))))
  rw[if_neg k1]at hRES hR1
  by_cases k2:e1≠0
  ·rw[if_pos k2]at hRES hR1
   subst hRES
   exact bad e1 (by rw[hR1]) k2 h
  rw[if_neg k2]at hRES hR1
  by_cases k3:e2≠0
  ·rw[if_pos k3]at hRES hR1
   subst hRES
   exact bad e2 (by rw[hR1]) k3 h
  rw[if_neg k3]at hRES hR1
  unfold tc
  rw[hR1,if_neg (by simp)]
  subst hRES
  exact(h H).Ey (.agg (.cons (.refl _) (.cons (.refl _) (.cons (.refl _) (.cons (.refl _) (.cons (.refl _) (.cons (.refl _) (.cons (.refl _) (.cons (.refl _) (.cons (.refl _) (.cons (.refl _) (.cons hSub (.cons (.refl _) (.cons .nil (.cons (.refl _) .nil)))))))))))))))
 refine hres _ rfl fun H=>?_
 clear hres bad hR1 hx1 hx2 hj1 hSub
 refine ag.bj (hint:=fun _=>false) Tryz.func52 (by kernel_rfl) rfl [.cell 4 36] (by kernel_rfl) (by simp[Tryz.ntmps52]) ?_
 rw[Tryz.ntmps52]
 rcases hpath with⟨h0,hbb,hND⟩|⟨h0,h2,hdk,hND,hnd⟩
 case' inl=>
  subst hbb
  simp -implicitDefEqProofs only[↓reduceIte,go_sem,ah,Nat.reduceAdd,Nat.reduceLT,Nat.reduceLeDiff,Nat.reduceEqDiff,show(0<(zn:Int))=False from eq_false (by omega)]
 case' inr=>
  simp -implicitDefEqProofs only[↓reduceIte,go_sem,ah,Nat.reduceAdd,Nat.reduceLT,Nat.reduceLeDiff,Nat.reduceEqDiff,Int.reduceEq,show(0<(zn:Int))=True from eq_true (by omega),w7,d8,w8,ai,show((b.length:Int)<(n8:Int))=False from eq_false (by omega)]
  refine aO K.mixed (by kernel_rfl) ?_
  simp -implicitDefEqProofs only[↓reduceIte,go_sem,ah,Nat.reduceAdd,Nat.reduceLT,Nat.reduceLeDiff,Nat.reduceEqDiff,Int.reduceLE,Int.reduceToNat,aL,ai,htk]
  refine⟨by omega,?_⟩
  refine ae.ok (hnd _) ?_
  simp -implicitDefEqProofs only[↓reduceIte,go_sem,ah,au,Nat.reduceAdd,Nat.reduceLT,Nat.reduceLeDiff,Nat.reduceEqDiff,aL,ai,bQ _ _ (ai b),hdk]
  refine⟨by omega,?_⟩
 all_goals
  by_cases k1:zn=zr
  ·rw[if_pos k1]
   simp -implicitDefEqProofs only[↓reduceIte,go_sem,ah,au,Nat.reduceAdd,Nat.reduceLT,Nat.reduceLeDiff,Nat.reduceEqDiff,show(zn<zr)=False from eq_false (by omega)]
   refine aZ.ret ?_
   simp -implicitDefEqProofs only[↓reduceIte,go_sem,ah,Nat.reduceAdd,Nat.reduceLT,Nat.reduceLeDiff,Nat.reduceEqDiff,aJ,a8,hND,cP]
  ·rw[if_neg k1]
   simp -implicitDefEqProofs only[↓reduceIte,go_sem,ah,Nat.reduceAdd,Nat.reduceLT,Nat.reduceLeDiff,Nat.reduceEqDiff,show(zn<zr)=True from eq_true (by omega)]
   refine ae.ok (v1 _) ?_
   by_cases k2:e1=0
   ·subst k2
    rw[if_neg (by simp)]
    simp -implicitDefEqProofs only[↓reduceIte,go_sem,ah,au,Nat.reduceAdd,Nat.reduceLT,Nat.reduceLeDiff,Nat.reduceEqDiff]
    refine ae.ok (v2 _) ?_
    by_cases k3:e2=0
    ·subst k3
     rw[if_neg (by simp)]
     simp -implicitDefEqProofs only[↓reduceIte,go_sem,ah,au,Nat.reduceAdd,Nat.reduceLT,Nat.reduceLeDiff,Nat.reduceEqDiff]
     refine aZ.ret ?_
     simp -implicitDefEqProofs only[↓reduceIte,go_sem,ah,Nat.reduceAdd,Nat.reduceLT,Nat.reduceLeDiff,Nat.reduceEqDiff,aJ,a8,hND]
    ·rw[if_pos k3]
     simp -implicitDefEqProofs only[↓reduceIte,go_sem,au,Nat.reduceAdd,Nat.reduceLT,Nat.reduceEqDiff,k3]
     refine aZ.ret ?_
     simp -implicitDefEqProofs only[↓reduceIte,go_sem,ah,Nat.reduceAdd,Nat.reduceLT,Nat.reduceLeDiff,Nat.reduceEqDiff,aJ,a8,fR,cP]
   ·rw[if_pos k2]
    simp -implicitDefEqProofs only[↓reduceIte,go_sem,au,Nat.reduceAdd,Nat.reduceLT,Nat.reduceEqDiff,k2]
    refine aZ.ret ?_
    simp -implicitDefEqProofs only[↓reduceIte,go_sem,ah,Nat.reduceAdd,Nat.reduceLT,Nat.reduceLeDiff,Nat.reduceEqDiff,aJ,a8,fR,cP]
abbrev IL:List AV:=[iA 0,iA 0,iA 0,iA 0,iA 0,iA 0,sA ⟨#[]⟩,iA 0,iA 0,sA ⟨#[]⟩,jG,jG,jG,iA 0]
theorem Bh(x:List Nat)(q:List Nat×List Nat×Int)(hq:q=fz 4 x [])(hx:∀c∈x,c<256)(hl:x.length≤140737488351232)(gs:Sg)(ge:Int)(gr:List Nat)(V:List aq)(e3:Int)(t:Sg)(e4:Int)(B:List Nat)
  (hz:q.2.2=0→dj q.1=true→∀H,ag Tryz.prog 52 [.agg [iA (q.1.getD 0 0:Nat),iA (q.1.getD 1 0:Nat),iA (q.1.getD 2 0:Nat),iA (q.1.getD 3 0:Nat),iA 0,iA 0,sA ⟨#[]⟩,iA 0,iA 0,sA ⟨#[]⟩,jG,jG],.d (.list false (aD q.2.1))] H (.ok (.agg (pL (gs,gr,ge)))) H)
  (hv:q.2.2=0→dj q.1=true→ge=0→∀H,ag Tryz.prog 53 [.agg gs.cs] H (.ok (.bz [.d (.list false (V.map aq.enc)),iA e3])) H)
  (hm:q.2.2=0→dj q.1=true→ge=0→e3=0→∀H,ag Tryz.prog 54 [.d (.list false (V.map aq.enc)),iA (q.1.getD 0 0:Nat),iA (q.1.getD 1 0:Nat)] H (.ok (.bz [.agg t.cs,iA e4])) H)
  (hp:q.2.2=0→dj q.1=true→ge=0→e3=0→e4=0→q.1.getD 1 0≠0→cb B∧∀H,ag Tryz.prog 55 [.agg t.cs] H (.ok (.d (.list false (aD B)))) H) (H:aa):
  ag Tryz.prog 24 [.d (.list false (aD x))] H (.ok (if q.2.2≠0 then .agg (fR q.2.2)else if dj q.1=false then .agg (fR 4)else if ge≠0 then .agg (pL (gs,gr,ge))else if e3≠0 then .agg (fR 4)
   else if e4≠0∨q.1.getD 1 0=0∨B≠x then .agg (fR 4)else .agg (t.cs++[jG,iA 0]))) H:=by
 have hql:q.2.2=0→q.1.length=4:=fun h=>by rw[hq]at h⊢;rw[pU 4 x [] h];rfl
 refine ag.bj (hint:=fun t=>t==9||t==1000015||t==12||t==1000021) Tryz.func24 (by kernel_rfl) rfl [.cell 2 36] (by kernel_rfl) (by simp[Tryz.ntmps24]) ?_
 rw[Tryz.ntmps24]
 simp -implicitDefEqProofs only[↓reduceIte,go_sem,Nat.reduceAdd,Nat.reduceLT,Nat.reduceBEq,reduceCtorEq]
 refine aP (fun k s H'=>∃c acc,H'=H++[.box 36 14 0 1 IL,.arr 3 1 k (lb acc)]∧fz (4-k) c acc=q∧acc.length=k∧c.length≤x.length∧(∀y∈c,y<256)∧(∀y∈acc,y≤1048576)∧s 0= .d (.list false (aD x))∧s 2= .ptr H.length 0 0 0∧s 3= .sl (H.length+1) k 0 k∧s 4= .d (.list false (aD c))∧s 5=iA k) 4 (by omega) (ay.db _ _ 3 3 1 (by decide) (by simp -implicitDefEqProofs only[↓reduceIte,go_sem,Nat.reduceLT,Nat.reduceEqDiff]) _) ?_ ?_ ?_
 ·refine⟨x,[],by simp[lb],hq.symm,rfl,Nat.le_refl _,hx,by simp,?_⟩
  simp -implicitDefEqProofs only[↓reduceIte,go_sem,Nat.reduceLT,Nat.reduceEqDiff,reduceCtorEq]
 ·rintro k s H' hk hw ⟨c,acc,rfl,hF,hal,hcl,hcb,hac,t0,t2,t3,t4,t5⟩
  have hg:=fun H=>fx c false (by omega) hcb H
  have hle:=eO c
  obtain⟨m,hm⟩:∃m,4-k=m+1:=⟨3-k,by omega⟩
  rw[hm]at hF
  unfold fz at hF
  generalize aQ c=g at*
  obtain⟨n,j,e⟩:=g
  simp only at hF hg hle
  simp -implicitDefEqProofs only[↓reduceIte,go_sem,Nat.reduceLT,Nat.reduceEqDiff,t4,t5,show((k:Int)<4)=True from eq_true (by omega)]
  refine ae.ok (hg _) ?_
  by_cases he:e=0
  ·subst he
   rw[if_neg (by simp)]at hF
   have hnl:(lb acc).length=k:=by rw[←hal];simp[lb]
   have hdj:List.drop j (aD c)=aD (c.drop j):=by unfold aD;rw[List.map_drop]
   by_cases hn:1048576<n
   ·rw[show min n 1048576=1048576 by omega]at hF
    simp -implicitDefEqProofs only[↓reduceIte,go_sem,Nat.reduceAdd,Nat.reduceLT,Nat.reduceLeDiff,Nat.reduceEqDiff,Nat.reduceBEq,t3,t4,t5,show((1048576:Int)<(n:Int))=True from eq_true (by omega),show IntKind.i64.wrap 1048576=1048576 by decide,hnl,aL,ai,bQ _ _ (ai c),hdj,hw]
    refine⟨by omega,by omega,by omega,?_⟩
    refine c9.same ⟨c.drop j,acc++[1048576],by simp[lb],by rw[show 4-(k+1)=m by omega];exact hF,by simp[hal],by rw[List.length_drop];omega,fun y hy=>hcb y (List.mem_of_mem_drop hy),?_,?_⟩
    ·intro y hy
     rcases List.mem_append.1 hy with h|h
     ·exact hac y h
     ·rw[List.mem_singleton.1 h];omega
    ·simp -implicitDefEqProofs only[↓reduceIte,go_sem,Nat.reduceLT,Nat.reduceEqDiff,reduceCtorEq,t0,t2]
   ·rw[show min n 1048576=n by omega]at hF
    have w1:IntKind.i64.wrap (n:Int)=(n:Int):=wrap64_in _ (by omega) (by omega)
    simp -implicitDefEqProofs only[↓reduceIte,go_sem,Nat.reduceAdd,Nat.reduceLT,Nat.reduceLeDiff,Nat.reduceEqDiff,Nat.reduceBEq,t3,t4,t5,show((1048576:Int)<(n:Int))=False from eq_false (by omega),w1,hnl,aL,ai,bQ _ _ (ai c),hdj,hw]
    refine⟨by omega,by omega,by omega,?_⟩
    refine c9.same ⟨c.drop j,acc++[n],by simp[lb],by rw[show 4-(k+1)=m by omega];exact hF,by simp[hal],by rw[List.length_drop];omega,fun y hy=>hcb y (List.mem_of_mem_drop hy),?_,?_⟩
    ·intro y hy
     rcases List.mem_append.1 hy with h|h
     ·exact hac y h
     ·rw[List.mem_singleton.1 h];omega
    ·simp -implicitDefEqProofs only[↓reduceIte,go_sem,Nat.reduceLT,Nat.reduceEqDiff,reduceCtorEq,t0,t2]
  ·rw[if_pos he]at hF
   have hq2:q.2.2=e:=by rw[←hF]
   simp -implicitDefEqProofs only[↓reduceIte,go_sem,au,Nat.reduceAdd,Nat.reduceLT,Nat.reduceEqDiff,Nat.reduceBEq,he,t2]
   rw[hq2,if_pos he]
   refine aZ.ret ?_
   simp -implicitDefEqProofs only[↓reduceIte,go_sem,ah,Nat.reduceAdd,Nat.reduceLeDiff,Nat.reduceEqDiff,aJ,a8,t2,fR,cP]
 ·rintro s H' ⟨c,acc,rfl,hF,hal,hcl,hcb,hac,t0,t2,t3,t4,t5⟩
  have hq1:q=(acc,c,0):=hF.symm
  rw[hq1]at hz hv hm hp⊢
  obtain⟨a0,a1,a2,a3,rfl⟩:∃a0 a1 a2 a3,acc=[a0,a1,a2,a3]:=by
   match acc,hal with
   |[a0,a1,a2,a3],_=>exact⟨_,_,_,_,rfl⟩
  rw[if_neg (by simp)]
  have hnr:lb [a0,a1,a2,a3]=[[D.v (.int .i64 (a0:Int))],[.v (.int .i64 (a1:Int))],[.v (.int .i64 (a2:Int))],[.v (.int .i64 (a3:Int))]]:=rfl
  rw[hnr]
  have hho:dj [a0,a1,a2,a3]=(decide (1≤a0)&&decide (a0≤3)&&decide (a2≤4096)&&decide (a3≤a2)):=rfl
  simp only[List.getD_cons_zero,List.getD_cons_succ]at hz hv hm hp⊢
  have hkd:=fun H=>c7 a0 H
  have hki:=fD (a0:Int)
  simp -implicitDefEqProofs only[↓reduceIte,go_sem,Nat.reduceAdd,Nat.reduceLT,Nat.reduceBEq,Int.reduceLT,t5]
  refine aO K.mixed (by kernel_rfl) ?_
  simp -implicitDefEqProofs only[↓reduceIte,go_sem,ah,Nat.reduceLT,Nat.reduceEqDiff,Int.reduceLE,Int.reduceLT,Int.reduceToNat,t3]
  refine ae.ok (hkd _) ?_
  by_cases c1:dj [a0,a1,a2,a3]=true
  ·rw[c1,if_neg (by simp)]
   have hz:=hz trivial c1
   have hv:=hv trivial c1
   have hm:=hm trivial c1
   have hp:=hp trivial c1
   rw[hho]at c1
   simp only[Bool.and_eq_true,decide_eq_true_eq]at c1
   have k1:bJ (a0:Int)=true:=hki.2 (by omega)
   obtain⟨gk,gc,⟨gzr,gzn,gmn,gmx⟩,gns,gb⟩:=gs
   obtain⟨tk,tw,⟨tzr,tzn,tmn,tmx⟩,tns,tb⟩:=t
   simp only[pL,Sg.cs,List.cons_append,List.nil_append]at hz hv hm hp⊢
   have htiG:TI Tryz.prog 36=some ((.agg #[.int .i64 0,.int .i64 0,.int .i64 0,.int .i64 0,.int .i64 0,.int .i64 0,.string ⟨#[]⟩,.int .i64 0,.int .i64 0,.string ⟨#[]⟩,.slice none 0 0,.slice none 0 0,.slice none 0 0,.int .i64 0]:Value),14,176):=by kernel_rfl
   have htiS:TI Tryz.prog 34=some ((.agg #[.int .i64 0,.int .i64 0,.int .i64 0,.int .i64 0,.int .i64 0,.int .i64 0,.string ⟨#[]⟩,.int .i64 0,.int .i64 0,.string ⟨#[]⟩,.slice none 0 0,.slice none 0 0]:Value),12,144):=by kernel_rfl
   simp -implicitDefEqProofs only[↓reduceIte,go_sem,ah,Nat.reduceAdd,Nat.reduceLT,Nat.reduceEqDiff,Nat.reduceBEq,Int.reduceLE,Int.reduceLT,Int.reduceToNat,reduceCtorEq,k1,t3,show((4096:Int)<(a2:Int))=False from eq_false (by omega),show(a2<a3)=False from eq_false (by omega)]
   refine⟨_,_,ay.more _ _ 36 14 (by decide),?_⟩
   simp -implicitDefEqProofs only[go_sem]
   refine mK [some false,none,none,some false,none,none,some false,none,none,some false,none,none,some false,some false,some false,some true,some true,some true] 16 (H.length+2) (.box 36 14 1 1 IL) (H++[.box 36 14 0 1 IL,.arr 3 1 4 [[.v (.int .i64 (a0:Int))],[.v (.int .i64 (a1:Int))],[.v (.int .i64 (a2:Int))],[.v (.int .i64 (a3:Int))]]]) K.mixed (by kernel_rfl) (by kernel_rfl) (by kernel_rfl) (ue _ [_,_] [_]) (by intro o ho;simp at ho) ?_
   simp -implicitDefEqProofs only[↓reduceIte,go_sem,ah,Nat.reduceAdd,Nat.reduceLT,Nat.reduceLeDiff,Nat.reduceEqDiff,Int.reduceLE,Int.reduceLT,Int.reduceToNat,reduceCtorEq,t3,t4]
   refine ae.ok (hz _) ?_
   simp -implicitDefEqProofs only[↓reduceIte,go_sem,Nat.reduceAdd,Nat.reduceLT,Nat.reduceEqDiff]
   refine ae.ok (hz _) ?_
   simp -implicitDefEqProofs only[↓reduceIte,go_sem,ah,au,Nat.reduceAdd,Nat.reduceLT,Nat.reduceEqDiff,Nat.reduceBEq]
   refine⟨ue _ [_,_] [_],⟨_,_,_,_,36,rfl,rfl,htiG,⟨by decide,by kernel_rfl,by kernel_rfl⟩,rfl,rfl,by simp -implicitDefEqProofs only[go_sem]⟩,ue _ [_,_] [_],?_⟩
   by_cases h1:ge=0
   ·subst h1
    have hv:=hv rfl
    have hm:=hm rfl
    have hp:=hp rfl
    rw[if_neg (by simp)]
    simp -implicitDefEqProofs only[↓reduceIte,go_sem,ah,Nat.reduceAdd,Nat.reduceLT,Nat.reduceLeDiff,Nat.reduceEqDiff,Nat.reduceBEq]
    refine ae.ok (hv _) ?_
    by_cases h2:e3=0
    ·subst h2
     have hm:=hm rfl
     have hp:=hp rfl
     rw[if_neg (by simp)]
     simp -implicitDefEqProofs only[↓reduceIte,go_sem,Nat.reduceAdd,Nat.reduceLT,Nat.reduceEqDiff,Nat.reduceBEq]
     refine⟨_,_,ay.more _ _ 34 12 (by decide),?_⟩
     simp -implicitDefEqProofs only[go_sem]
     refine mK [some false,some false,none,none,some false,none,none,some true,some false,some false,some false,some true,some true,some false] 11 (H.length+3) (.box 34 12 1 1 ey) (H++[.box 36 14 0 1 IL,.arr 3 1 4 [[.v (.int .i64 (a0:Int))],[.v (.int .i64 (a1:Int))],[.v (.int .i64 (a2:Int))],[.v (.int .i64 (a3:Int))]]]) K.mixed (by kernel_rfl) (by kernel_rfl) (by kernel_rfl) (ue _ [_,_] [_,_]) (by intro o ho;simp at ho) ?_
     simp -implicitDefEqProofs only[↓reduceIte,go_sem,ah,Nat.reduceAdd,Nat.reduceLT,Nat.reduceEqDiff,Int.reduceLE,Int.reduceLT,Int.reduceToNat,reduceCtorEq,t3]
     refine ae.ok (hm _) ?_
     simp -implicitDefEqProofs only[↓reduceIte,go_sem,Nat.reduceAdd,Nat.reduceLT,Nat.reduceEqDiff]
     refine ae.ok (hm _) ?_
     simp -implicitDefEqProofs only[↓reduceIte,go_sem,au,Nat.reduceAdd,Nat.reduceLT,Nat.reduceEqDiff]
     refine⟨ue _ [_,_] [_,_],⟨_,_,_,_,34,rfl,rfl,htiS,⟨by decide,by kernel_rfl,by kernel_rfl⟩,rfl,rfl,by simp -implicitDefEqProofs only[go_sem]⟩,?_⟩
     simp -implicitDefEqProofs only[↓reduceIte,go_sem,Nat.reduceAdd,Nat.reduceLT,Nat.reduceEqDiff,Nat.reduceBEq,ey,cP]
     refine⟨ue _ [_,_] [_,_],?_⟩
     by_cases h3:e4=0
     ·subst h3
      by_cases h4:a1=0
      ·rw[if_pos (.inr (.inl h4))]
       refine aO K.mixed (by kernel_rfl) ?_
       simp -implicitDefEqProofs only[↓reduceIte,go_sem,ah,Nat.reduceAdd,Nat.reduceLT,Nat.reduceEqDiff,Int.reduceLE,Int.reduceLT,Int.reduceToNat,reduceCtorEq,t3,show((a1:Int)=0)=True from eq_true (by omega)]
       simp -implicitDefEqProofs only[↓reduceIte,go_sem,au,Nat.reduceAdd,t2]
       refine aZ.ret ?_
       simp -implicitDefEqProofs only[↓reduceIte,go_sem,ah,Nat.reduceAdd,Nat.reduceLeDiff,Nat.reduceEqDiff,aJ,a8,t2,fR,cP]
      ·obtain⟨hBb,hp⟩:=hp rfl h4
       have hbb:=km hBb hx
       refine aO K.mixed (by kernel_rfl) ?_
       simp -implicitDefEqProofs only[↓reduceIte,go_sem,ah,Nat.reduceAdd,Nat.reduceLT,Nat.reduceEqDiff,Int.reduceLE,Int.reduceLT,Int.reduceToNat,reduceCtorEq,t3,show((a1:Int)=0)=False from eq_false (by omega)]
       refine ae.ok (hp _) ?_
       simp -implicitDefEqProofs only[↓reduceIte,go_sem,Nat.reduceLT,Nat.reduceEqDiff,reduceCtorEq,t0,dq,iv,hbb]
       by_cases h5:B=x
       ·rw[if_neg (by rintro(h|h|h);exact h rfl;exact h4 h;exact h h5)]
        simp -implicitDefEqProofs only[↓reduceIte,go_sem,ah,au,Nat.reduceAdd,Nat.reduceLT,Nat.reduceLeDiff,Nat.reduceEqDiff,Nat.reduceBEq,h5,t2]
        refine aZ.ret ?_
        simp -implicitDefEqProofs only[↓reduceIte,go_sem,ah,Nat.reduceAdd,Nat.reduceLeDiff,Nat.reduceEqDiff,aJ,a8,t2]
       ·rw[if_pos (.inr (.inr h5))]
        simp -implicitDefEqProofs only[↓reduceIte,go_sem,au,Nat.reduceAdd,Nat.reduceLT,Nat.reduceEqDiff,h5,t2]
        refine aZ.ret ?_
        simp -implicitDefEqProofs only[↓reduceIte,go_sem,ah,Nat.reduceAdd,Nat.reduceLeDiff,Nat.reduceEqDiff,aJ,a8,t2,fR,cP]
     ·rw[if_pos (.inl h3)]
      refine aO K.mixed (by kernel_rfl) ?_
      simp -implicitDefEqProofs only[↓reduceIte,go_sem,Nat.reduceAdd,Nat.reduceLT,Nat.reduceEqDiff,h3]
      simp -implicitDefEqProofs only[↓reduceIte,go_sem,au,Nat.reduceAdd,t2]
      refine aZ.ret ?_
      simp -implicitDefEqProofs only[↓reduceIte,go_sem,ah,Nat.reduceAdd,Nat.reduceLeDiff,Nat.reduceEqDiff,aJ,a8,t2,fR,cP]
    ·rw[if_pos h2]
     simp -implicitDefEqProofs only[↓reduceIte,go_sem,au,Nat.reduceAdd,Nat.reduceLT,Nat.reduceEqDiff,Nat.reduceBEq,h2,t2]
     refine aZ.ret ?_
     simp -implicitDefEqProofs only[↓reduceIte,go_sem,ah,Nat.reduceAdd,Nat.reduceLeDiff,Nat.reduceEqDiff,aJ,a8,t2,fR,cP]
   ·rw[if_pos h1]
    simp -implicitDefEqProofs only[↓reduceIte,go_sem,ah,au,Nat.reduceAdd,Nat.reduceLT,Nat.reduceEqDiff,h1,t2]
    refine aZ.ret ?_
    simp -implicitDefEqProofs only[↓reduceIte,go_sem,ah,Nat.reduceAdd,Nat.reduceLeDiff,Nat.reduceEqDiff,aJ,a8,t2]
  ·rw[if_pos (by simpa using c1)]
   rw[hho]at c1
   simp only[Bool.and_eq_true,decide_eq_true_eq]at c1
   by_cases k1:bJ (a0:Int)=true
   ·have k2:=hki.1 k1
    by_cases k3:4096<a2
    ·simp -implicitDefEqProofs only[↓reduceIte,go_sem,ah,Nat.reduceAdd,Nat.reduceLT,Nat.reduceEqDiff,Int.reduceLE,Int.reduceLT,Int.reduceToNat,reduceCtorEq,k1,t3,show((4096:Int)<(a2:Int))=True from eq_true (by omega)]
     simp -implicitDefEqProofs only[↓reduceIte,go_sem,au,Nat.reduceAdd,t2]
     refine aZ.ret ?_
     simp -implicitDefEqProofs only[↓reduceIte,go_sem,ah,Nat.reduceAdd,Nat.reduceLeDiff,Nat.reduceEqDiff,aJ,a8,t2,fR,cP]
    ·simp -implicitDefEqProofs only[↓reduceIte,go_sem,ah,Nat.reduceAdd,Nat.reduceLT,Nat.reduceEqDiff,Int.reduceLE,Int.reduceLT,Int.reduceToNat,reduceCtorEq,k1,t3,show((4096:Int)<(a2:Int))=False from eq_false (by omega),show(a2<a3)=True from eq_true (by omega)]
     simp -implicitDefEqProofs only[↓reduceIte,go_sem,au,Nat.reduceAdd,t2]
     refine aZ.ret ?_
     simp -implicitDefEqProofs only[↓reduceIte,go_sem,ah,Nat.reduceAdd,Nat.reduceLeDiff,Nat.reduceEqDiff,aJ,a8,t2,fR,cP]
   ·have k1:bJ (a0:Int)=false:=by simpa using k1
    simp -implicitDefEqProofs only[↓reduceIte,go_sem,Nat.reduceAdd,Nat.reduceLT,Nat.reduceEqDiff,k1]
    simp -implicitDefEqProofs only[↓reduceIte,go_sem,au,Nat.reduceAdd,t2]
    refine aZ.ret ?_
    simp -implicitDefEqProofs only[↓reduceIte,go_sem,ah,Nat.reduceAdd,Nat.reduceLeDiff,Nat.reduceEqDiff,aJ,a8,t2,fR,cP]
theorem Hb(w:Nat):iB w=w/2^^^(if w%2=1 then 3988292384 else 0):=by
 unfold iB
 split<;>simp
theorem Ej(a b:Nat):iB (a^^^b)=iB a^^^iB b:=by
 simp only[Hb,Nat.xor_div_two,Nat.xor_mod_two_eq_one]
 apply Nat.eq_of_testBit_eq
 intro i
 by_cases h1:a%2=1<;>by_cases h2:b%2=1<;>simp[h1,h2,Nat.testBit_xor]
 all_goals cases(a/2).testBit i<;>cases(b/2).testBit i<;>cases(3988292384:Nat).testBit i<;>rfl
theorem nO(a b:Nat):∀k,dM (a^^^b) k=dM a k^^^dM b k
 |0=>rfl
 |k+1=>by simp only[dM,nO a b k,Ej]
theorem th(k:Nat):∀q,dM (q* 2^k) k=q:=by
 induction k with
 |zero=>intro q;simp[dM]
 |succ k ih=>
  intro q
  have e:q* 2^(k+1)=2* q* 2^k:=by rw[Nat.pow_succ,←Nat.mul_assoc,Nat.mul_right_comm,Nat.mul_comm 2 q]
  simp only[dM]
  rw[e,ih]
  unfold iB
  rw[if_neg (by omega)]
  omega
theorem Ka(x:Nat):x=x/256* 2^8^^^x%256:=by
 apply Nat.eq_of_testBit_eq
 intro i
 rw[Nat.testBit_xor,Nat.testBit_mul_two_pow,show(256:Nat)=2^8 from rfl,Nat.testBit_div_two_pow,Nat.testBit_mod_two_pow]
 by_cases h:8≤i
 ·simp[h,show ¬i<8 by omega,show i-8+8=i by omega]
 ·simp[h,show i<8 by omega]
def K6:List Nat→Nat
 |[]=>0
 |c::b=>c+256* K6 b
theorem EK(w:Nat){c:Nat}(h:c<256):w/256^^^ky ((w%256)^^^c)=dM (w^^^c) 8:=by
 have e:w^^^c=w/256* 2^8^^^((w%256)^^^c):=by
  conv=>lhs;rw[Ka w]
  rw[Nat.xor_assoc]
 rw[e,nO,th]
 rfl
def NQ(w:Nat)(b:List Nat):Nat:=b.foldl (fun w c=>w/256^^^ky ((w%256)^^^c)) w
structure JR (X0 X:List Nat) (a m i:Nat):Prop where
 len:X.length=X0.length
 byte:∀c∈X,c<256
 num:K6 X=K6 X0^^^m* 2^a
 lt:m<2^i
 none:m=0→X=X0
theorem JR.skip{X0 X:List Nat}{a m i:Nat}(h:JR X0 X a m i):JR X0 X a m (i+1):=
 ⟨h.len,h.byte,h.num,Nat.lt_of_lt_of_le h.lt (Nat.pow_le_pow_right (by omega) (by omega)),h.none⟩
end Go.Proofs.YtmbagpfmfiegkaaGreat
