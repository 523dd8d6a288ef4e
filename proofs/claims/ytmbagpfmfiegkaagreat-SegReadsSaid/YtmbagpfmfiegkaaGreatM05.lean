/- Contracts of functions and lemmas for segReads_holds, part 5. -/
import Derived.Laws.Bits64b
import Derived.Lib.Mul64
import Derived.Test.YtmbagpfmfiegkaaGreatM04
set_option maxHeartbeats 8000000
set_option maxRecDepth 100000
set_option linter.all false
namespace Go.Proofs.YtmbagpfmfiegkaaGreat
open Go.Proofs.YtmbagpfmfiegkaaGreatAw Go.RowKit
namespace SV
theorem ri(n:Nat)(h:n≤2000000000000):IntKind.i64.wrap (j6 .u64 (IntKind.u64.wrap (n:Int)) 1)=((n/2:Nat):Int):=by
 rw[aK n (by omega)]
 have:=yz n 1 (by decide)
 rw[show((1:Nat):Int)=1 from rfl]at this
 rw[this]
 exact yJ _ (by omega)
theorem uE{L P R:List aq}{x y:aq}(h:L=P++x::y::R){i:Nat}(hi:P.length=i):L[i]?=some x∧L[i+1]?=some y∧(L.set i y)[i+1]?=some y∧(L.set (i+1) x)[i]?=some x∧(L.set i y).set (i+1) x=P++y::x::R∧(L.set (i+1) x).set i y=P++y::x::R:=by
 subst h hi
 have e:P++x::y::R=(P++[x])++y::R:=by simp
 have e2:∀z:aq,P++z::y::R=(P++[z])++y::R:=by simp
 have h1:∀z:aq,(P++[z]).length=P.length+1:=by simp
 refine⟨get_at rfl,by rw[e];exact get_at (h1 x),?_,?_,?_,?_⟩
 ·rw[jq rfl,e2];exact get_at (h1 y)
 ·rw[e,jq (h1 x)]
  have:P++[x]++x::R=P++x::(x::R):=by simp
  rw[this];exact get_at rfl
 ·rw[jq rfl,e2,jq (h1 y)];simp
 ·rw[e,jq (h1 x)]
  have:P++[x]++x::R=P++x::(x::R):=by simp
  rw[this,jq rfl]
theorem K8{P X Y Q L:List aq}{a:Nat}(hL:L=P++X++Y++Q)(ha:P.length=a):∀i x,X[i]?=some x→L[a+i]?=some x:=fun i x hx=>by
 have:=(List.getElem?_eq_some_iff.1 hx).1
 rw[hL,List.append_assoc,List.append_assoc,←ha,List.getElem?_append_right (by omega),List.getElem?_append_left (by omega),Nat.add_sub_cancel_left]
 exact hx
theorem Kf{P X Y Q L:List aq}{m:Nat}(hL:L=P++X++Y++Q)(hm:P.length+X.length=m):∀i y,Y[i]?=some y→L[m+i]?=some y:=fun i y hy=>by
 have:=(List.getElem?_eq_some_iff.1 hy).1
 rw[hL,List.append_assoc (P++X),←hm,List.getElem?_append_right (by simp),List.getElem?_append_left (by simp;omega)]
 simpa[Nat.add_sub_cancel_left]using hy
theorem FT(H:aa)(id ver:Nat)(hid:id<H.length)(g:FuncId)(caps:List AV)(c:aq→aq→Int)(ho:St.Ord (ec c))(hc:oX g caps c H id)(n:Nat)(hbig:n≤1000000000000)(P X Y Q L L':List aq)(a m b:Nat)
  (hL:L=P++X++Y++Q) (hL':L'=P++St.ct (ec c) (X++Y)++Q) (ha:P.length=a) (hm:P.length+X.length=m) (hb:P.length+X.length+Y.length=b) (hX0:0<X.length) (hY0:0<Y.length) (hX:St.aR (ec c) X) (hY:St.aR (ec c) Y) (hn:L.length=n) (h1:X.length=1):
  ag Tryz.prog 180 [.sl id ver 0 n,iA a,iA m,iA b,.fn g caps] (aH H id ver L) (.ok (.bz [])) (aH H id ver L'):=by
 have hnl:P.length+X.length+Y.length+Q.length=n:=by rw[←hn,hL];simp;omega
 have w1:IntKind.i64.wrap ((m:Int)-(a:Int))=((X.length:Nat):Int):=by rw[wrap64_in _ (by omega) (by omega)];omega
 have w2:IntKind.i64.wrap ((b:Int)-(m:Int))=((Y.length:Nat):Int):=by rw[wrap64_in _ (by omega) (by omega)];omega
 have hLX:=K8 hL ha
 have hLY:=Kf hL hm
 generalize hE0:aH H id ver L=E0
 have gh:=jy hid ver L
 rw[hE0]at gh
 have hcE:∀x y:aq,ag Tryz.prog g ([.agg ((aq.enc x).map .d),.agg ((aq.enc y).map .d)]++caps) E0 (.ok (iA (c x y))) E0:=fun x y=>by rw[←hE0];exact hc.at ver L x y
 refine ag.aj (hint:=(fun _=>false)) Tryz.func180 (by kernel_rfl) rfl [] (by kernel_rfl) (by decide) (by simp[Tryz.ntmps180]) ?_
 rw[Tryz.ntmps180]
 obtain⟨x,rfl⟩:∃x,X=[x]:=List.length_eq_one_iff.1 h1
 simp -implicitDefEqProofs only[↓reduceIte,go_sem,Nat.reduceLT,Nat.reduceEqDiff,w1,h1]
 refine cl _ _ _ _ (fun(z:Nat×Nat) s H'=>H'=E0∧z.1≤z.2∧z.2≤Y.length∧(z.1=0∨∃y,Y[z.1-1]?=some y∧ec c y x=true)∧(z.2=Y.length∨∃y,Y[z.2]?=some y∧ec c y x=false)∧
  s 0= .sl id ver 0 n∧s 1=iA a∧s 4= .fn g caps∧s 10=iA ((m+z.1:Nat):Int)∧s 11=iA ((m+z.2:Nat):Int)) (fun z=>z.2-z.1) (0,Y.length) (ay.refl _ _) ?_ ?_
 ·refine⟨rfl,Nat.zero_le _,Nat.le_refl _,.inl rfl,.inl rfl,?_⟩
  simp -implicitDefEqProofs only[↓reduceIte,go_sem,Nat.reduceLT,Nat.reduceEqDiff,reduceCtorEq,show m+Y.length=b by omega,Nat.add_zero]
 ·rintro⟨i,j⟩ s H' ⟨rfl,hij,hj,hlo,hhi,t0,t1,t4,t10,t11⟩
  simp only at hij hj hlo hhi t10 t11
  obtain⟨i',hi'⟩:∃i',i'=m+i:=⟨_,rfl⟩
  obtain⟨j',hj'⟩:∃j',j'=m+j:=⟨_,rfl⟩
  rw[←hi']at t10
  rw[←hj']at t11
  have f1:((m:Int)+(i:Int))=(i':Int):=by omega
  have f2:((m:Int)+(j:Int))=(j':Int):=by omega
  by_cases hlt:i<j
  ·obtain⟨q,hq⟩:∃q,q=i'+j':=⟨_,rfl⟩
   have w3:IntKind.i64.wrap ((i':Int)+(j':Int))=(q:Int):=by rw[wrap64_in _ (by omega) (by omega)];omega
   have w4:=ri q (by omega)
   obtain⟨h,hh⟩:∃h,h=q/2:=⟨_,rfl⟩
   rw[←hh]at w4
   obtain⟨y,hy⟩:∃y,Y[h-m]?=some y:=⟨_,List.getElem?_eq_getElem (show h-m<Y.length by omega)⟩
   have gy:=dg (hLY _ _ hy)
   rw[show m+(h-m)=h by omega]at gy
   have gx:=dg (hLX 0 x rfl)
   rw[Nat.add_zero]at gx
   have hd:=hcE y x
   simp only[aq.enc]at gx gy
   simp only[aq.enc,List.map_cons,List.map_nil]at hd
   have hln:h<n:=by omega
   have han:a<n:=by omega
   simp -implicitDefEqProofs only[↓reduceIte,go_sem,Nat.reduceLT,Nat.reduceEqDiff,Int.reduceLE,t10,t11,show((i':Int)<(j':Int))=True from eq_true (by omega),w3,w4]
   refine aO K.mixed (by kernel_rfl) ?_
   simp -implicitDefEqProofs only[↓reduceIte,go_sem,ah,Nat.reduceAdd,Nat.reduceLT,Nat.reduceEqDiff,reduceCtorEq,t0,t1,t4,gh,gx,gy,hln,han]
   refine ae.ok hd ?_
   by_cases hcc:c y x<0
   ·have hw5:IntKind.i64.wrap ((h:Int)+1)=((m+(h-m+1):Nat):Int):=by rw[wrap64_in _ (by omega) (by omega)];omega
    obtain⟨h2,hh2⟩:∃h2,h2=m+(h-m+1):=⟨_,rfl⟩
    rw[←hh2]at hw5
    simp -implicitDefEqProofs only[↓reduceIte,go_sem,Nat.reduceLT,Nat.reduceEqDiff,hcc,hw5]
    refine⟨_,_,(h-m+1,j),ay.refl _ _,⟨rfl,by simp only;omega,hj,.inr ⟨y,by simpa using hy,by simp[ec,hcc]⟩,hhi,?_⟩,by simp only;omega⟩
    simp -implicitDefEqProofs only[↓reduceIte,go_sem,Nat.reduceLT,Nat.reduceEqDiff,reduceCtorEq,t0,t1,t4,t11,show((m:Int)+(((h-m:Nat):Int)+1))=(h2:Int) by omega,f2]
   ·simp -implicitDefEqProofs only[↓reduceIte,go_sem,Nat.reduceLT,Nat.reduceEqDiff,hcc]
    refine⟨_,_,(i,h-m),ay.refl _ _,⟨rfl,by simp only;omega,by simp only;omega,hlo,.inr ⟨y,hy,by simp[ec,hcc]⟩,?_⟩,by simp only;omega⟩
    simp -implicitDefEqProofs only[↓reduceIte,go_sem,Nat.reduceLT,Nat.reduceEqDiff,reduceCtorEq,t0,t1,t4,t10,show((m:Int)+((h-m:Nat):Int))=(h:Int) by omega,f1]
  ·obtain rfl:j=i:=by omega
   have hmg:=St.FC ho hY hj hlo hhi
   have hw6:IntKind.i64.wrap ((i':Int)-1)=(i':Int)-1:=wrap64_in _ (by omega) (by omega)
   simp -implicitDefEqProofs only[↓reduceIte,go_sem,Nat.reduceLT,Nat.reduceEqDiff,t10,t11,show((i':Int)<(j':Int))=False from eq_false (by omega),t1]
   refine aP (fun k s H'=>(∃Lk,H'=aH H id ver Lk∧Lk=P++Y.take k++x::(Y.drop k++Q))∧s 0= .sl id ver 0 n∧s 10=iA i'∧s 13=iA ((a:Int)+(k:Int))) j (by omega) (ay.refl _ _) ?_ ?_ ?_
   ·refine⟨⟨L,hE0.symm,by rw[hL];simp⟩,?_⟩
    simp -implicitDefEqProofs only[↓reduceIte,go_sem,Nat.reduceLT,Nat.reduceEqDiff,reduceCtorEq,t0,t10,Int.add_zero]
   ·rintro k s H' hk hw ⟨⟨Lk,rfl,hLk⟩,t0,t10,t13⟩
    have hkY:k<Y.length:=by omega
    have e1:Y.drop k=Y[k]::Y.drop (k+1):=List.drop_eq_getElem_cons hkY
    have e2:Y.take (k+1)=Y.take k++[Y[k]]:=List.take_succ_eq_append_getElem hkY
    rw[e1]at hLk
    rw[e2]
    have l1:(P++Y.take k).length=a+k:=by simp;omega
    generalize Y[k]=y at*
    generalize Y.drop (k+1)=Y1 at*
    generalize Y.take k=Y0 at*
    obtain⟨u,hu⟩:∃u,u=a+k:=⟨_,rfl⟩
    obtain⟨v,hv⟩:∃v,v=u+1:=⟨_,rfl⟩
    rw[←hu]at l1
    obtain⟨g1,g2,g3,_,g5,_⟩:=uE (L:=Lk) (P:=P++Y0) (x:=x) (y:=y) (R:=Y1++Q) (by rw[hLk];simp) l1
    rw[←hv]at g2 g3 g5
    have f3:((a:Int)+(k:Int))=(u:Int):=by omega
    have hw7:IntKind.i64.wrap ((u:Int)+1)=(v:Int):=by rw[wrap64_in _ (by omega) (by omega)];omega
    rw[f3]at t13
    have gg:=jy hid ver Lk
    have q1:=dg g1
    have q2:=dg g2
    have q3:=dg g3
    have s1:=jc Lk u y
    have s2:=jc (Lk.set u y) v x
    rw[g5]at s2
    have hun:u<n:=by omega
    have hvn:v<n:=by omega
    simp only[aq.enc]at q1 q2 q3 s1 s2
    simp -implicitDefEqProofs only[↓reduceIte,go_sem,Nat.reduceLT,Nat.reduceEqDiff,t10,t13,hw6,show((u:Int)<(i':Int)-1)=True from eq_true (by omega)]
    refine kx [false,false,false,false,false,false,false,false,false,false,false,false,false,false,true,true,true,true] 14 K.mixed (by kernel_rfl) (by kernel_rfl) (by kernel_rfl) ?_
    simp -implicitDefEqProofs only[↓reduceIte,go_sem,ah,au,Nat.reduceAdd,Nat.reduceLT,Nat.reduceEqDiff,reduceCtorEq,t0,t13,hw7,hun,hvn,gg,q1,q2,q3,s1,s2,pN,hid,List.getElem?_set_self,List.set_set]
    refine c9.same ⟨⟨_,by rw[←oY],by simp⟩,?_⟩
    simp -implicitDefEqProofs only[↓reduceIte,go_sem,Nat.reduceLT,Nat.reduceEqDiff,reduceCtorEq,t0,t10,show((a:Int)+((k:Int)+1))=(v:Int) by omega]
   ·rintro s H' ⟨⟨Lk,rfl,hLk⟩,t0,t10,t13⟩
    simp -implicitDefEqProofs only[↓reduceIte,go_sem,Nat.reduceLT,Nat.reduceEqDiff,t10,t13,hw6,show((a:Int)+(j:Int)<(i':Int)-1)=False from eq_false (by omega)]
    have:Lk=L':=by rw[hLk,hL',List.singleton_append,←hmg];simp
    rw[this]
    exact⟨_,ay.refl _ _,rfl⟩
theorem Ft(H:aa)(id ver:Nat)(hid:id<H.length)(g:FuncId)(caps:List AV)(c:aq→aq→Int)(ho:St.Ord (ec c))(hc:oX g caps c H id)(n:Nat)(hbig:n≤1000000000000)(P X Y Q L L':List aq)(a m b:Nat)
  (hL:L=P++X++Y++Q) (hL':L'=P++St.ct (ec c) (X++Y)++Q) (ha:P.length=a) (hm:P.length+X.length=m) (hb:P.length+X.length+Y.length=b) (hX0:0<X.length) (hY0:0<Y.length) (hX:St.aR (ec c) X) (hY:St.aR (ec c) Y) (hn:L.length=n) (h1:¬X.length=1) (h2:Y.length=1):
  ag Tryz.prog 180 [.sl id ver 0 n,iA a,iA m,iA b,.fn g caps] (aH H id ver L) (.ok (.bz [])) (aH H id ver L'):=by
 have hnl:P.length+X.length+Y.length+Q.length=n:=by rw[←hn,hL];simp;omega
 have w1:IntKind.i64.wrap ((m:Int)-(a:Int))=((X.length:Nat):Int):=by rw[wrap64_in _ (by omega) (by omega)];omega
 have w2:IntKind.i64.wrap ((b:Int)-(m:Int))=((Y.length:Nat):Int):=by rw[wrap64_in _ (by omega) (by omega)];omega
 have hLX:=K8 hL ha
 have hLY:=Kf hL hm
 generalize hE0:aH H id ver L=E0
 have gh:=jy hid ver L
 rw[hE0]at gh
 have hcE:∀x y:aq,ag Tryz.prog g ([.agg ((aq.enc x).map .d),.agg ((aq.enc y).map .d)]++caps) E0 (.ok (iA (c x y))) E0:=fun x y=>by rw[←hE0];exact hc.at ver L x y
 refine ag.aj (hint:=(fun _=>false)) Tryz.func180 (by kernel_rfl) rfl [] (by kernel_rfl) (by decide) (by simp[Tryz.ntmps180]) ?_
 rw[Tryz.ntmps180]
 obtain⟨y,rfl⟩:∃y,Y=[y]:=List.length_eq_one_iff.1 h2
 simp -implicitDefEqProofs only[↓reduceIte,go_sem,Nat.reduceLT,Nat.reduceEqDiff,w1,w2,show(((X.length:Nat):Int)=1)=False from eq_false (by omega),h2]
 refine cl _ _ _ _ (fun(z:Nat×Nat) s H'=>H'=E0∧z.1≤z.2∧z.2≤X.length∧(z.1=0∨∃x,X[z.1-1]?=some x∧ec c y x=false)∧(z.2=X.length∨∃x,X[z.2]?=some x∧ec c y x=true)∧
  s 0= .sl id ver 0 n∧s 2=iA m∧s 4= .fn g caps∧s 14=iA ((a+z.1:Nat):Int)∧s 15=iA ((a+z.2:Nat):Int)) (fun z=>z.2-z.1) (0,X.length) (ay.refl _ _) ?_ ?_
 ·refine⟨rfl,Nat.zero_le _,Nat.le_refl _,.inl rfl,.inl rfl,?_⟩
  simp -implicitDefEqProofs only[↓reduceIte,go_sem,Nat.reduceLT,Nat.reduceEqDiff,reduceCtorEq,show((a:Int)+((X.length:Nat):Int))=(m:Int) by omega,Nat.add_zero]
 ·rintro⟨i,j⟩ s H' ⟨rfl,hij,hj,hlo,hhi,t0,t2,t4,t14,t15⟩
  simp only at hij hj hlo hhi t14 t15
  obtain⟨i',hi'⟩:∃i',i'=a+i:=⟨_,rfl⟩
  obtain⟨j',hj'⟩:∃j',j'=a+j:=⟨_,rfl⟩
  rw[←hi']at t14
  rw[←hj']at t15
  have f1:((a:Int)+(i:Int))=(i':Int):=by omega
  have f2:((a:Int)+(j:Int))=(j':Int):=by omega
  by_cases hlt:i<j
  ·obtain⟨q,hq⟩:∃q,q=i'+j':=⟨_,rfl⟩
   have w3:IntKind.i64.wrap ((i':Int)+(j':Int))=(q:Int):=by rw[wrap64_in _ (by omega) (by omega)];omega
   have w4:=ri q (by omega)
   obtain⟨h,hh⟩:∃h,h=q/2:=⟨_,rfl⟩
   rw[←hh]at w4
   obtain⟨x,hx⟩:∃x,X[h-a]?=some x:=⟨_,List.getElem?_eq_getElem (show h-a<X.length by omega)⟩
   have gx:=dg (hLX _ _ hx)
   rw[show a+(h-a)=h by omega]at gx
   have gy:=dg (hLY 0 y rfl)
   rw[Nat.add_zero]at gy
   have hd:=hcE y x
   simp only[aq.enc]at gx gy
   simp only[aq.enc,List.map_cons,List.map_nil]at hd
   have hln:h<n:=by omega
   have hmn:m<n:=by omega
   simp -implicitDefEqProofs only[↓reduceIte,go_sem,Nat.reduceLT,Nat.reduceEqDiff,Int.reduceLE,t14,t15,show((i':Int)<(j':Int))=True from eq_true (by omega),w3,w4]
   refine aO K.mixed (by kernel_rfl) ?_
   simp -implicitDefEqProofs only[↓reduceIte,go_sem,ah,Nat.reduceAdd,Nat.reduceLT,Nat.reduceEqDiff,reduceCtorEq,t0,t2,t4,gh,gx,gy,hln,hmn]
   refine ae.ok hd ?_
   by_cases hcc:c y x<0
   ·simp -implicitDefEqProofs only[↓reduceIte,go_sem,Nat.reduceLT,Nat.reduceEqDiff,hcc]
    refine⟨_,_,(i,h-a),ay.refl _ _,⟨rfl,by simp only;omega,by simp only;omega,hlo,.inr ⟨x,hx,by simp[ec,hcc]⟩,?_⟩,by simp only;omega⟩
    simp -implicitDefEqProofs only[↓reduceIte,go_sem,Nat.reduceLT,Nat.reduceEqDiff,reduceCtorEq,t0,t2,t4,t14,show((a:Int)+((h-a:Nat):Int))=(h:Int) by omega,f1]
   ·have hw5:IntKind.i64.wrap ((h:Int)+1)=((a+(h-a+1):Nat):Int):=by rw[wrap64_in _ (by omega) (by omega)];omega
    obtain⟨h2,hh2⟩:∃h2,h2=a+(h-a+1):=⟨_,rfl⟩
    rw[←hh2]at hw5
    simp -implicitDefEqProofs only[↓reduceIte,go_sem,Nat.reduceLT,Nat.reduceEqDiff,hcc,hw5]
    refine⟨_,_,(h-a+1,j),ay.refl _ _,⟨rfl,by simp only;omega,hj,.inr ⟨x,by simpa using hx,by simp[ec,hcc]⟩,hhi,?_⟩,by simp only;omega⟩
    simp -implicitDefEqProofs only[↓reduceIte,go_sem,Nat.reduceLT,Nat.reduceEqDiff,reduceCtorEq,t0,t2,t4,t15,show((a:Int)+(((h-a:Nat):Int)+1))=(h2:Int) by omega,f2]
  ·obtain rfl:j=i:=by omega
   have hmg:=St.BI ho hX hj hhi hlo
   simp -implicitDefEqProofs only[↓reduceIte,go_sem,Nat.reduceLT,Nat.reduceEqDiff,t14,t15,show((i':Int)<(j':Int))=False from eq_false (by omega),t2]
   refine cl _ _ _ _ (fun(k:Nat) s H'=>k≤X.length-j∧(∃Lk,H'=aH H id ver Lk∧Lk=P++X.take (j+k)++y::(X.drop (j+k)++Q))∧s 0= .sl id ver 0 n∧s 14=iA i'∧s 17=iA ((i':Int)+(k:Int))) (fun k=>k) (X.length-j) (ay.refl _ _) ?_ ?_
   ·refine⟨Nat.le_refl _,⟨L,hE0.symm,?_⟩,?_⟩
    ·rw[show j+(X.length-j)=X.length by omega,List.take_length,List.drop_length,hL];simp
    ·simp -implicitDefEqProofs only[↓reduceIte,go_sem,Nat.reduceLT,Nat.reduceEqDiff,reduceCtorEq,t0,t14,show((i':Int)+((X.length-j:Nat):Int))=(m:Int) by omega]
   ·rintro k s H' ⟨hkx,⟨Lk,rfl,hLk⟩,t0,t14,t17⟩
    cases k with
    |zero=>
     simp -implicitDefEqProofs only[↓reduceIte,go_sem,Nat.reduceLT,Nat.reduceEqDiff,t14,t17,Int.add_zero,Int.lt_irrefl]
     have:Lk=L':=by rw[hLk,hL',Nat.add_zero,←hmg];simp
     rw[this]
     exact⟨_,ay.refl _ _,rfl⟩
    |succ k=>
     have hkX:j+k<X.length:=by omega
     have e1:X.drop (j+k)=X[j+k]::X.drop (j+k+1):=List.drop_eq_getElem_cons hkX
     have e2:X.take (j+k+1)=X.take (j+k)++[X[j+k]]:=List.take_succ_eq_append_getElem hkX
     rw[show j+(k+1)=j+k+1 by omega,e2]at hLk
     have l1:(P++X.take (j+k)).length=i'+k:=by simp;omega
     obtain⟨u,hu⟩:∃u,u=i'+k:=⟨_,rfl⟩
     obtain⟨v,hv⟩:∃v,v=u+1:=⟨_,rfl⟩
     rw[←hu]at l1
     have fk:((i':Int)+((k+1:Nat):Int))=(v:Int):=by omega
     have fk2:((i':Int)+(k:Int))=(u:Int):=by omega
     rw[fk]at t17
     generalize X[j+k]=x at*
     generalize X.drop (j+k+1)=X1 at*
     obtain⟨g1,g2,_,g4,_,g6⟩:=uE (L:=Lk) (P:=P++X.take (j+k)) (x:=x) (y:=y) (R:=X1++Q) (by rw[hLk];simp) l1
     rw[←hv]at g2 g4 g6
     have hw7:IntKind.i64.wrap ((v:Int)-1)=(u:Int):=by rw[wrap64_in _ (by omega) (by omega)];omega
     have gg:=jy hid ver Lk
     have q1:=dg g1
     have q2:=dg g2
     have q4:=dg g4
     have s1:=jc Lk v x
     have s2:=jc (Lk.set v x) u y
     rw[g6]at s2
     have hun:u<n:=by omega
     have hvn:v<n:=by omega
     simp only[aq.enc]at q1 q2 q4 s1 s2
     simp -implicitDefEqProofs only[↓reduceIte,go_sem,Nat.reduceLT,Nat.reduceEqDiff,t14,t17,show((i':Int)<(v:Int))=True from eq_true (by omega)]
     refine kx [false,false,false,false,false,false,false,false,false,false,false,false,false,false,true,true,true,true] 14 K.mixed (by kernel_rfl) (by kernel_rfl) (by kernel_rfl) ?_
     simp -implicitDefEqProofs only[↓reduceIte,go_sem,ah,au,Nat.reduceAdd,Nat.reduceLT,Nat.reduceEqDiff,reduceCtorEq,t0,t17,hw7,hun,hvn,gg,q1,q2,q4,s1,s2,pN,hid,List.getElem?_set_self,List.set_set]
     refine⟨_,_,k,ay.refl _ _,⟨by omega,⟨_,by rw[←oY],by rw[e1];simp⟩,?_⟩,by omega⟩
     simp -implicitDefEqProofs only[↓reduceIte,go_sem,Nat.reduceLT,Nat.reduceEqDiff,reduceCtorEq,t0,t14,fk2]
end SV
end Go.Proofs.YtmbagpfmfiegkaaGreat
namespace Go.Proofs.YtmbagpfmfiegkaaGreat
open Go.Proofs.YtmbagpfmfiegkaaGreatAw Go.RowKit
namespace SV
def Hid(p:Prop):Prop:=p
theorem Ex{a m b q mid n0 s0 r0 lx ly:Nat}(hm:a+lx=m)(hb:a+lx+ly=b)(hq:q=a+b)(hmid:mid=q/2)(hn0:n0=mid+m)(hs0:s0=if mid<m then n0-b else a)(hr0:r0=if mid<m then mid else m)(hx:0<lx)(hy:0<ly)(h1:¬lx=1):
  (s0≤r0∧a≤s0∧r0≤m∧r0≤mid)∧(n0≤b+s0∧mid<b∧a<mid)∧Hid (r0=m∨n0=m+r0)∧Hid (s0=a∨n0=b+s0)∧m+r0≤n0∧(mid<m→b≤n0):=by
 by_cases h:mid<m
 ·rw[if_pos h]at hs0 hr0;unfold Hid;omega
 ·rw[if_neg h]at hs0 hr0;unfold Hid;omega
theorem EA(H:aa)(id ver:Nat)(hid:id<H.length)(g:FuncId)(caps:List AV)(c:aq→aq→Int)(ho:St.Ord (ec c))(hc:oX g caps c H id)(n:Nat)(hbig:n≤1000000000000)(P X Y Q L L':List aq)(a m b:Nat)
  (hL:L=P++X++Y++Q) (hL':L'=P++St.ct (ec c) (X++Y)++Q) (ha:P.length=a) (hm:P.length+X.length=m) (hb:P.length+X.length+Y.length=b) (hX0:0<X.length) (hY0:0<Y.length) (hX:St.aR (ec c) X) (hY:St.aR (ec c) Y) (hn:L.length=n) (h1:¬X.length=1) (h2:¬Y.length=1)
  (ih:∀(P' X' Y' Q' L1 L2:List aq) (a' m' b':Nat),X'.length+Y'.length<X.length+Y.length→L1=P'++X'++Y'++Q'→L2=P'++St.ct (ec c) (X'++Y')++Q'→P'.length=a'→P'.length+X'.length=m'→P'.length+X'.length+Y'.length=b'→0<X'.length→0<Y'.length→
   St.aR (ec c) X'→St.aR (ec c) Y'→L1.length=n→ag Tryz.prog 180 [.sl id ver 0 n,iA a',iA m',iA b',.fn g caps] (aH H id ver L1) (.ok (.bz [])) (aH H id ver L2)):
  ag Tryz.prog 180 [.sl id ver 0 n,iA a,iA m,iA b,.fn g caps] (aH H id ver L) (.ok (.bz [])) (aH H id ver L'):=by
 have hnl:P.length+X.length+Y.length+Q.length=n:=by rw[←hn,hL];simp;omega
 have w1:IntKind.i64.wrap ((m:Int)-(a:Int))=((X.length:Nat):Int):=by rw[wrap64_in _ (by omega) (by omega)];omega
 have w2:IntKind.i64.wrap ((b:Int)-(m:Int))=((Y.length:Nat):Int):=by rw[wrap64_in _ (by omega) (by omega)];omega
 have hLX:=K8 hL ha
 have hLY:=Kf hL hm
 generalize hE0:aH H id ver L=E0
 have gh:=jy hid ver L
 rw[hE0]at gh
 have hcE:∀x y:aq,ag Tryz.prog g ([.agg ((aq.enc x).map .d),.agg ((aq.enc y).map .d)]++caps) E0 (.ok (iA (c x y))) E0:=fun x y=>by rw[←hE0];exact hc.at ver L x y
 refine ag.aj (hint:=(fun _=>false)) Tryz.func180 (by kernel_rfl) rfl [] (by kernel_rfl) (by decide) (by simp[Tryz.ntmps180]) ?_
 rw[Tryz.ntmps180]
 obtain⟨q,hq⟩:∃q,q=a+b:=⟨_,rfl⟩
 obtain⟨mid,hmid⟩:∃mid,mid=q/2:=⟨_,rfl⟩
 obtain⟨n0,hn0⟩:∃n0,n0=mid+m:=⟨_,rfl⟩
 obtain⟨p,hp⟩:∃p,p=n0-1:=⟨_,rfl⟩
 have w3:IntKind.i64.wrap ((a:Int)+(b:Int))=(q:Int):=by rw[wrap64_in _ (by omega) (by omega)];omega
 have w4:=ri q (by omega)
 rw[←hmid]at w4
 have w5:IntKind.i64.wrap ((mid:Int)+(m:Int))=(n0:Int):=by rw[wrap64_in _ (by omega) (by omega)];omega
 have w6:IntKind.i64.wrap ((n0:Int)-1)=(p:Int):=by rw[wrap64_in _ (by omega) (by omega)];omega
 obtain⟨s0,hs0⟩:∃s0,s0=if mid<m then n0-b else a:=⟨_,rfl⟩
 obtain⟨r0,hr0⟩:∃r0,r0=if mid<m then mid else m:=⟨_,rfl⟩
 obtain⟨a1,a2,a3,a4,a5,a6⟩:=Ex (by omega) (by omega) hq hmid hn0 hs0 hr0 hX0 hY0 h1
 have w7:mid<m→IntKind.i64.wrap ((n0:Int)-(b:Int))=(s0:Int):=fun h=>by have:=a6 h;rw[if_pos h]at hs0;rw[wrap64_in _ (by omega) (by omega)];omega
 simp -implicitDefEqProofs only[↓reduceIte,go_sem,Nat.reduceLT,Nat.reduceEqDiff,Int.reduceLE,w1,w2,show(((X.length:Nat):Int)=1)=False from eq_false (by omega),show(((Y.length:Nat):Int)=1)=False from eq_false (by omega),w3,w4,w5]
 refine ER (fun s H'=>H'=E0∧s 0= .sl id ver 0 n∧s 1=iA a∧s 2=iA m∧s 3=iA b∧s 4= .fn g caps∧s 18=iA mid∧s 19=iA n0∧s 20=iA s0∧s 21=iA r0) rfl ?_ ?_
 ·by_cases hmm:mid<m
  ·simp -implicitDefEqProofs only[↓reduceIte,go_sem,Nat.reduceLT,Nat.reduceEqDiff,reduceCtorEq,eq_true hmm,w7 hmm]
   rw[hr0,if_pos hmm]
  ·simp -implicitDefEqProofs only[↓reduceIte,go_sem,Nat.reduceLT,Nat.reduceEqDiff,reduceCtorEq,eq_false hmm]
   rw[hs0,hr0,if_neg hmm,if_neg hmm]
   exact⟨rfl,rfl⟩
 ·clear hs0 hr0 w3 w4 w5 w7 a6 hmid
  rintro s H' ⟨rfl,t0,t1,t2,t3,t4,t18,t19,t20,t21⟩
  simp -implicitDefEqProofs only[↓reduceIte,go_sem,Nat.reduceLT,t19,w6]
  refine n4 (fun s H1=>H1=H'∧(∃st,s0≤st∧st≤r0∧Hid (st=s0∨∃x y,X[st-1-a]?=some x∧Y[n0-st-m]?=some y∧ec c y x=false)∧Hid (st=r0∨∃x y,X[st-a]?=some x∧Y[p-st-m]?=some y∧ec c y x=true)∧s 20=iA st)∧
   s 0= .sl id ver 0 n∧s 1=iA a∧s 2=iA m∧s 3=iA b∧s 4= .fn g caps∧s 18=iA mid∧s 19=iA n0) rfl ?_ ?_
  ·refine cl _ _ _ _ (fun(z:Nat×Nat) s H1=>H1=H'∧s0≤z.1∧z.1≤z.2∧z.2≤r0∧Hid (z.1=s0∨∃x y,X[z.1-1-a]?=some x∧Y[n0-z.1-m]?=some y∧ec c y x=false)∧Hid (z.2=r0∨∃x y,X[z.2-a]?=some x∧Y[p-z.2-m]?=some y∧ec c y x=true)∧
    s 0= .sl id ver 0 n∧s 1=iA a∧s 2=iA m∧s 3=iA b∧s 4= .fn g caps∧s 18=iA mid∧s 19=iA n0∧s 20=iA z.1∧s 21=iA z.2∧s 22=iA p) (fun z=>z.2-z.1) (s0,r0) (ay.refl _ _) ?_ ?_
   ·refine⟨rfl,Nat.le_refl _,a1.1,Nat.le_refl _,.inl rfl,.inl rfl,?_⟩
    simp -implicitDefEqProofs only[↓reduceIte,go_sem,Nat.reduceLT,Nat.reduceEqDiff,reduceCtorEq,t0,t1,t2,t3,t4,t18,t19,t20,t21]
   ·rintro⟨i,j⟩ s H1 ⟨rfl,hi0,hij,hj0,hlo,hhi,t0,t1,t2,t3,t4,t18,t19,t20,t21,t22⟩
    simp only at hi0 hij hj0 hlo hhi t20 t21
    by_cases hlt:i<j
    ·obtain⟨qq,hqq⟩:∃qq,qq=i+j:=⟨_,rfl⟩
     have v3:IntKind.i64.wrap ((i:Int)+(j:Int))=(qq:Int):=by rw[wrap64_in _ (by omega) (by omega)];omega
     have v4:=ri qq (by omega)
     obtain⟨h,hh⟩:∃h,h=qq/2:=⟨_,rfl⟩
     rw[←hh]at v4
     have hpc:m≤p-h∧p-h<b∧h<m∧a≤h:=by omega
     obtain⟨pc,hpc2⟩:∃pc,pc=p-h:=⟨_,rfl⟩
     have v5:IntKind.i64.wrap ((p:Int)-(h:Int))=(pc:Int):=by rw[wrap64_in _ (by omega) (by omega)];omega
     obtain⟨x,hx⟩:∃x,X[h-a]?=some x:=⟨_,List.getElem?_eq_getElem (show h-a<X.length by omega)⟩
     obtain⟨y,hy⟩:∃y,Y[pc-m]?=some y:=⟨_,List.getElem?_eq_getElem (show pc-m<Y.length by omega)⟩
     have gx:=dg (hLX _ _ hx)
     rw[show a+(h-a)=h by omega]at gx
     have gy:=dg (hLY _ _ hy)
     rw[show m+(pc-m)=pc by omega]at gy
     have hd:=hcE y x
     simp only[aq.enc]at gx gy
     simp only[aq.enc,List.map_cons,List.map_nil]at hd
     have hln:h<n:=by omega
     have hpn:pc<n:=by omega
     simp -implicitDefEqProofs only[↓reduceIte,go_sem,Nat.reduceLT,Nat.reduceEqDiff,Int.reduceLE,t20,t21,eq_true hlt,v3,v4]
     refine aO K.mixed (by kernel_rfl) ?_
     simp -implicitDefEqProofs only[↓reduceIte,go_sem,ah,Nat.reduceAdd,Nat.reduceLT,Nat.reduceEqDiff,reduceCtorEq,t0,t4,t22,gh,gx,gy,hln,hpn,v5]
     refine ae.ok hd ?_
     by_cases hcc:c y x<0
     ·simp -implicitDefEqProofs only[↓reduceIte,go_sem,Nat.reduceLT,Nat.reduceEqDiff,hcc]
      refine⟨_,_,(i,h),ay.refl _ _,⟨rfl,hi0,by simp only;omega,by simp only;omega,hlo,.inr ⟨x,y,hx,by rw[←hpc2];exact hy,by simp[ec,hcc]⟩,?_⟩,by simp only;omega⟩
      simp -implicitDefEqProofs only[↓reduceIte,go_sem,Nat.reduceLT,Nat.reduceEqDiff,reduceCtorEq,t0,t1,t2,t3,t4,t18,t19,t20,t22]
     ·have v6:IntKind.i64.wrap ((h:Int)+1)=(h:Int)+1:=wrap64_in _ (by omega) (by omega)
      simp -implicitDefEqProofs only[↓reduceIte,go_sem,Nat.reduceLT,Nat.reduceEqDiff,hcc,v6]
      refine⟨_,_,(h+1,j),ay.refl _ _,⟨rfl,by simp only;omega,by simp only;omega,hj0,.inr ⟨x,y,by simpa using hx,by rw[show n0-(h+1)-m=pc-m by omega];exact hy,by simp[ec,hcc]⟩,hhi,?_⟩,by simp only;omega⟩
      simp -implicitDefEqProofs only[↓reduceIte,go_sem,Nat.reduceLT,Nat.reduceEqDiff,reduceCtorEq,t0,t1,t2,t3,t4,t18,t19,t21,t22]
    ·obtain rfl:j=i:=by omega
     simp -implicitDefEqProofs only[↓reduceIte,go_sem,Nat.reduceLT,Nat.reduceEqDiff,reduceCtorEq,t20,t21,Nat.lt_irrefl]
     exact⟨⟨j,hi0,hj0,hlo,hhi,rfl⟩,t0,t1,t2,t3,t4,t18,t19⟩
  ·rintro s H1 ⟨rfl,⟨st,hst0,hst1,hlo,hhi,t20⟩,t0,t1,t2,t3,t4,t18,t19⟩
   clear w6
   obtain⟨e,he⟩:∃e,e=n0-st:=⟨_,rfl⟩
   obtain⟨sX,hsX⟩:∃sX,sX=st-a:=⟨_,rfl⟩
   obtain⟨eY,heY⟩:∃eY,eY=e-m:=⟨_,rfl⟩
   have w8:IntKind.i64.wrap ((n0:Int)-(st:Int))=(e:Int):=by rw[wrap64_in _ (by omega) (by omega)];omega
   have b1:sX≤X.length∧eY≤Y.length∧m≤e∧e≤b∧mid=st+eY∧e=mid+(m-st):=by omega
   have hcut:=St.vr ho hX hY (s:=sX) (e:=eY) b1.1 b1.2.1 ?_ ?_
   rotate_left
   ·rcases hhi with h|⟨x,y,hx,hy,h⟩
    ·rcases a3 with h3|h3
     ·exact .inl (by omega)
     ·exact .inr (.inl (by omega))
    ·exact .inr (.inr ⟨x,y,by rw[hsX];exact hx,by rw[show eY-1=p-st-m by omega];exact hy,h⟩)
   ·rcases hlo with h|⟨x,y,hx,hy,h⟩
    ·rcases a4 with h4|h4
     ·exact .inl (by omega)
     ·exact .inr (.inl (by omega))
    ·exact .inr (.inr ⟨x,y,by rw[show sX-1=st-1-a by omega];exact hx,by rw[show eY=n0-st-m by omega];exact hy,h⟩)
   have hXs:=hX
   have hYs:=hY
   have eX:X.take sX++X.drop sX=X:=List.take_append_drop _ _
   have eY':Y.take eY++Y.drop eY=Y:=List.take_append_drop _ _
   have lA:(X.take sX).length=sX:=by rw[List.length_take];omega
   have lU:(X.drop sX).length=X.length-sX:=List.length_drop
   have lV:(Y.take eY).length=eY:=by rw[List.length_take];omega
   have lB:(Y.drop eY).length=Y.length-eY:=List.length_drop
   rw[←eX]at hXs
   rw[←eY']at hYs
   have sA:=hXs.left
   have sU:=hXs.right
   have sV:=hYs.left
   have sB:=hYs.right
   clear hXs hYs hlo hhi a3 a4
   generalize hA:X.take sX=A at*
   generalize hU:X.drop sX=U at*
   generalize hV:Y.take eY=V at*
   generalize hB:Y.drop eY=B at*
   have hLL:L=P++A++U++V++(B++Q):=by rw[hL,←eX,←eY'];simp
   obtain⟨L1,hL1⟩:∃L1,L1=P++A++V++U++(B++Q):=⟨_,rfl⟩
   obtain⟨L2,hL2⟩:∃L2,L2=P++St.ct (ec c) (A++V)++U++B++Q:=⟨_,rfl⟩
   have hL3:L'=P++St.ct (ec c) (A++V)++St.ct (ec c) (U++B)++Q:=by rw[hL',←hcut];simp
   have n1:L1.length=n:=by rw[←hn,hLL,hL1];simp;omega
   have n2:L2.length=n:=by rw[←hn,hLL,hL2];simp[St.dm];omega
   rw[iT]
   refine n7 (fun s H2=>H2=aH H id ver L∧s 0= .sl id ver 0 n∧s 1=iA a∧s 2=iA m∧s 3=iA b∧s 4= .fn g caps∧s 18=iA mid∧s 20=iA st∧s 24=iA e) rfl (by simp -implicitDefEqProofs only[↓reduceIte,go_sem,Nat.reduceLT,Nat.reduceEqDiff,reduceCtorEq,t0,t1,t2,t3,t4,t18,t19,t20,w8,hE0]) ?_
   rintro s H2 ⟨rfl,t0,t1,t2,t3,t4,t18,t20,t24⟩
   rw[iT]
   refine n7 (fun s H2=>H2=aH H id ver L1∧s 0= .sl id ver 0 n∧s 1=iA a∧s 2=iA m∧s 3=iA b∧s 4= .fn g caps∧s 18=iA mid∧s 20=iA st∧s 24=iA e) rfl ?_ ?_
   ·have same:U=[]∨V=[]→aH H id ver L=aH H id ver L1:=fun h=>by
     rw[hL1,hLL];rcases h with rfl|rfl<;>simp
    by_cases c1:st<m
    ·by_cases c2:m<e
     ·simp -implicitDefEqProofs only[↓reduceIte,go_sem,Nat.reduceLT,Nat.reduceEqDiff,reduceCtorEq,t2,t20,t24,eq_true c1,eq_true c2]
      simp -implicitDefEqProofs only[go_sem,t0,t4]
      refine ae.ok (xZ H id ver hid g caps (P++A) U V (B++Q) L L1 hLL (by rw[hL1]) st m e n (by simp;omega) (by simp;omega) (by simp;omega) (by omega) (by omega) hn hbig) ?_
      simp -implicitDefEqProofs only[↓reduceIte,go_sem,Nat.reduceEqDiff,reduceCtorEq,t0,t1,t2,t3,t4,t18,t20,t24]
     ·simp -implicitDefEqProofs only[↓reduceIte,go_sem,Nat.reduceLT,Nat.reduceEqDiff,reduceCtorEq,t2,t20,t24,eq_true c1,eq_false c2]
      simp -implicitDefEqProofs only[go_sem,t0,t1,t3,t4,t18]
      exact same (.inr (List.eq_nil_of_length_eq_zero (by omega)))
    ·simp -implicitDefEqProofs only[↓reduceIte,go_sem,Nat.reduceLT,Nat.reduceEqDiff,reduceCtorEq,t2,t20,t24,eq_false c1]
     simp -implicitDefEqProofs only[go_sem,t0,t1,t3,t4,t18]
     exact same (.inl (List.eq_nil_of_length_eq_zero (by omega)))
   rintro s H2 ⟨rfl,t0,t1,t2,t3,t4,t18,t20,t24⟩
   rw[iT]
   refine n7 (fun s H2=>H2=aH H id ver L2∧s 0= .sl id ver 0 n∧s 3=iA b∧s 4= .fn g caps∧s 18=iA mid∧s 24=iA e) rfl ?_ ?_
   ·have same:A=[]∨V=[]→aH H id ver L1=aH H id ver L2:=fun h=>by
     have:St.ct (ec c) (A++V)=A++V:=by
      rcases h with rfl|rfl
      ·simpa using St.fF ho sV
      ·simpa using St.fF ho sA
     rw[hL1,hL2,this];simp
    by_cases c1:a<st
    ·by_cases c2:st<mid
     ·simp -implicitDefEqProofs only[↓reduceIte,go_sem,Nat.reduceLT,Nat.reduceEqDiff,reduceCtorEq,t1,t18,t20,eq_true c1,eq_true c2]
      simp -implicitDefEqProofs only[go_sem,t0,t4]
      refine ae.ok (ih P A V (U++(B++Q)) L1 L2 a st mid (by omega) (by rw[hL1];simp) (by rw[hL2];simp) ha (by omega) (by omega) (by omega) (by omega) sA sV n1) ?_
      simp -implicitDefEqProofs only[↓reduceIte,go_sem,Nat.reduceEqDiff,reduceCtorEq,t0,t3,t4,t18,t24]
     ·simp -implicitDefEqProofs only[↓reduceIte,go_sem,Nat.reduceLT,Nat.reduceEqDiff,reduceCtorEq,t1,t18,t20,eq_true c1,eq_false c2]
      simp -implicitDefEqProofs only[go_sem,t0,t3,t4,t24]
      exact same (.inr (List.eq_nil_of_length_eq_zero (by omega)))
    ·simp -implicitDefEqProofs only[↓reduceIte,go_sem,Nat.reduceLT,Nat.reduceEqDiff,reduceCtorEq,t1,t18,t20,eq_false c1]
     simp -implicitDefEqProofs only[go_sem,t0,t3,t4,t24]
     exact same (.inl (List.eq_nil_of_length_eq_zero (by omega)))
   rintro s H2 ⟨rfl,t0,t3,t4,t18,t24⟩
   have same:U=[]∨B=[]→aH H id ver L2=aH H id ver L':=fun h=>by
    have:St.ct (ec c) (U++B)=U++B:=by
     rcases h with rfl|rfl
     ·simpa using St.fF ho sB
     ·simpa using St.fF ho sU
    rw[hL2,hL3,this];simp
   by_cases c1:mid<e
   ·by_cases c2:e<b
    ·simp -implicitDefEqProofs only[↓reduceIte,go_sem,Nat.reduceLT,Nat.reduceEqDiff,reduceCtorEq,t3,t18,t24,eq_true c1,eq_true c2]
     simp -implicitDefEqProofs only[go_sem,t0,t4]
     have lS:=St.dm (lt:=ec c) (A++V)
     rw[List.length_append]at lS
     refine ae.ok (ih (P++St.ct (ec c) (A++V)) U B Q L2 L' mid e b (by omega) (by rw[hL2]) (by rw[hL3]) (by simp;omega) (by simp;omega) (by simp;omega) (by omega) (by omega) sU sB n2) ?_
     simp -implicitDefEqProofs only[go_sem]
     exact⟨_,ay.refl _ _,rfl⟩
    ·simp -implicitDefEqProofs only[↓reduceIte,go_sem,Nat.reduceLT,Nat.reduceEqDiff,t3,t18,t24,eq_true c1,eq_false c2]
     rw[same (.inr (List.eq_nil_of_length_eq_zero (by omega)))]
     exact⟨_,ay.refl _ _,rfl⟩
   ·simp -implicitDefEqProofs only[↓reduceIte,go_sem,Nat.reduceLT,Nat.reduceEqDiff,reduceCtorEq,t18,t24,eq_false c1]
    rw[same (.inl (List.eq_nil_of_length_eq_zero (by omega)))]
    exact⟨_,ay.refl _ _,rfl⟩
end SV
end Go.Proofs.YtmbagpfmfiegkaaGreat
namespace Go.Proofs.YtmbagpfmfiegkaaGreat
namespace St
variable {α:Type} {lt:α→α→Bool}
def nh(s j:Nat)(l:List α):List α:=(l.drop (j* s)).take s
theorem FX{s j k:Nat}{P R:List α}(hP:P.length=k* s)(hj:j<k):nh s j (P++R)=(P.drop (j* s)).take s:=by
 have h1:(j+1)* s≤k* s:=Nat.mul_le_mul_right s hj
 rw[Nat.add_mul,Nat.one_mul]at h1
 unfold nh
 rw[List.drop_append_of_le_length (by omega),List.take_append_of_le_length (by rw[List.length_drop];omega)]
theorem JV{s k:Nat}{P X Q:List α}(hP:P.length=k* s)(hX:X.length=s∨X.length≤s∧Q=[]):nh s k (P++X++Q)=X:=by
 unfold nh
 rw[List.append_assoc,←hP,List.drop_left]
 rcases hX with h|⟨h,rfl⟩
 ·rw[←h,List.take_left]
 ·rw[List.append_nil,List.take_of_length_le h]
theorem ql{P X Q:List α}{i:Nat}(h:P.length+X.length≤i):(P++X++Q).drop i=Q.drop (i-(P.length+X.length)):=by
 rw[List.drop_append,List.drop_of_length_le (by rw[List.length_append];exact h),List.nil_append,List.length_append]
theorem Cn{s j:Nat}{P X X' Q:List α}(hX:X.length=X'.length)(h:P.length+X.length≤j* s):nh s j (P++X++Q)=nh s j (P++X'++Q):=by
 unfold nh
 rw[ql h,ql (by omega),hX]
theorem Du{s j:Nat}{l:List α}(h:l.length≤j* s):nh s j l=[]:=by
 unfold nh
 rw[List.drop_of_length_le h,List.take_nil]
theorem nZ(ho:Ord lt){s k:Nat}{P X Q:List α}(hP:P.length=k* s)(h:∀j,j<k→aR lt (nh s j (P++X++Q)))(hX:X.length=s∨X.length≤s∧Q=[]):∀j,j<k+1→aR lt (nh s j (P++ct lt X++Q)):=by
 intro j hj
 rcases Nat.lt_or_ge j k with h1|h1
 ·have:=h j h1
  rw[List.append_assoc,FX hP h1]at this⊢
  exact this
 ·obtain rfl:j=k:=by omega
  rw[JV hP (by rw[dm];exact hX)]
  exact dC ho X
theorem mH(ho:Ord lt)(P X Q:List α):dD lt (P++ct lt X++Q) (P++X++Q):=dD.app (dD.app (.refl _) (fy ho X)) (.refl _)
theorem LC(l:List α)(a s:Nat):l.take a++(l.drop a).take s++l.drop (a+s)=l:=by
 rw[List.append_assoc,←List.drop_drop,List.take_append_drop,List.take_append_drop]
theorem MD(l:List α)(a s t:Nat):l.take a++(l.drop a).take s++(l.drop (a+s)).take t++l.drop (a+s+t)=l:=by
 have e:(l.drop (a+s)).take t++l.drop (a+s+t)=l.drop (a+s):=by
  have:=List.take_append_drop t (l.drop (a+s))
  rwa[List.drop_drop]at this
 rw[List.append_assoc,e,LC]
end St
end Go.Proofs.YtmbagpfmfiegkaaGreat
namespace Go.Proofs.YtmbagpfmfiegkaaGreat
open Go.Proofs.YtmbagpfmfiegkaaGreatAw Go.RowKit
namespace SV
theorem na(H:aa)(id ver:Nat)(hid:id<H.length)(g:FuncId)(caps:List AV)(c:aq→aq→Int)(ho:St.Ord (ec c))(hc:oX g caps c H id)(n:Nat)(hbig:n≤1000000000000):∀(N:Nat) (P X Y Q L L':List aq) (a m b:Nat),X.length+Y.length≤N→
  L=P++X++Y++Q→L'=P++St.ct (ec c) (X++Y)++Q→P.length=a→P.length+X.length=m→P.length+X.length+Y.length=b→0<X.length→0<Y.length→St.aR (ec c) X→St.aR (ec c) Y→L.length=n→
  ag Tryz.prog 180 [.sl id ver 0 n,iA a,iA m,iA b,.fn g caps] (aH H id ver L) (.ok (.bz [])) (aH H id ver L'):=by
 intro N
 induction N with
 |zero=>intros;omega
 |succ N ih=>
  intro P X Y Q L L' a m b hN hL hL' ha hm hb hX0 hY0 hX hY hn
  by_cases h1:X.length=1
  ·exact FT H id ver hid g caps c ho hc n hbig P X Y Q L L' a m b hL hL' ha hm hb hX0 hY0 hX hY hn h1
  ·by_cases h2:Y.length=1
   ·exact Ft H id ver hid g caps c ho hc n hbig P X Y Q L L' a m b hL hL' ha hm hb hX0 hY0 hX hY hn h1 h2
   ·exact EA H id ver hid g caps c ho hc n hbig P X Y Q L L' a m b hL hL' ha hm hb hX0 hY0 hX hY hn h1 h2 fun P' X' Y' Q' L1 L2 a' m' b' hlt=>ih P' X' Y' Q' L1 L2 a' m' b' (by omega)
theorem Aa(H:aa)(id ver:Nat)(hid:id<H.length)(g:FuncId)(caps:List AV)(c:aq→aq→Int)(ho:St.Ord (ec c))(hc:oX g caps c H id)(n:Nat)(hbig:n≤100000000000)(L:List aq)(hn:L.length=n):
  ag Tryz.prog 172 [.sl id ver 0 n,iA n,.fn g caps] (aH H id ver L) (.ok (.bz [])) (aH H id ver (St.ct (ec c) L)):=by
 generalize hE0:aH H id ver L=E0
 generalize hE1:aH H id ver (St.ct (ec c) L)=E1
 refine ag.aj (hint:=(fun _=>false)) Tryz.func172 (by kernel_rfl) rfl [] (by kernel_rfl) (by decide) (by simp[Tryz.ntmps172]) ?_
 rw[Tryz.ntmps172]
 simp -implicitDefEqProofs only[↓reduceIte,go_sem,Nat.reduceLT,Nat.reduceEqDiff]
 refine n4 (fun s H'=>(∃Lk,H'=aH H id ver Lk∧St.dD (ec c) Lk L∧Lk.length=n∧(∃k,k* 20≤n∧n<(k+1)* 20∧(∀j,j<k→St.aR (ec c) (St.nh 20 j Lk))∧s 7=iA ((k* 20:Nat):Int)))∧s 0= .sl id ver 0 n∧s 1=iA n∧s 2= .fn g caps∧s 6=iA 20) rfl ?_ ?_
 ·refine cl _ _ _ _ (fun(k:Nat) s H'=>k* 20≤n∧(∃Lk,H'=aH H id ver Lk∧St.dD (ec c) Lk L∧Lk.length=n∧∀j,j<k→St.aR (ec c) (St.nh 20 j Lk))∧s 0= .sl id ver 0 n∧s 1=iA n∧s 2= .fn g caps∧s 6=iA 20∧s 7=iA ((k* 20:Nat):Int)∧s 8=iA (((k+1)* 20:Nat):Int)) (fun k=>n-k) 0 (ay.refl _ _) ?_ ?_
  ·refine⟨by omega,⟨L,hE0.symm,.refl _,hn,fun j hj=>by omega⟩,?_⟩
   simp -implicitDefEqProofs only[↓reduceIte,go_sem,Nat.reduceLT,Nat.reduceEqDiff,reduceCtorEq]
  ·rintro k s H' ⟨hk,⟨Lk,rfl,hst,hlen,hso⟩,t0,t1,t2,t6,t7,t8⟩
   obtain⟨a,ha⟩:∃a,a=k* 20:=⟨_,rfl⟩
   obtain⟨b,hb⟩:∃b,b=(k+1)* 20:=⟨_,rfl⟩
   rw[←ha]at t7
   rw[←hb]at t8
   by_cases hbn:b≤n
   ·obtain⟨P,hP⟩:∃P,P=Lk.take a:=⟨_,rfl⟩
    obtain⟨X,hX⟩:∃X,X=(Lk.drop a).take 20:=⟨_,rfl⟩
    obtain⟨Q,hQ⟩:∃Q,Q=Lk.drop (a+20):=⟨_,rfl⟩
    have hc3:Lk=P++X++Q:=by rw[hP,hX,hQ,St.LC]
    have lP:P.length=a:=by rw[hP,List.length_take];omega
    have lX:X.length=20:=by rw[hX,List.length_take,List.length_drop];omega
    obtain⟨L1,hL1⟩:∃L1,L1=P++St.ct (ec c) X++Q:=⟨_,rfl⟩
    have lL1:L1.length=n:=by rw[hL1,←hlen,hc3];simp[St.dm]
    have hso1:∀j,j<k+1→St.aR (ec c) (St.nh 20 j L1):=by
     rw[hL1];exact St.nZ ho (by omega) (by rw[←hc3];exact hso) (.inl lX)
    have hst1:St.dD (ec c) L1 L:=by
     refine St.dD.trans ?_ hst
     rw[hL1,hc3];exact St.mH ho P X Q
    have w1:IntKind.i64.wrap ((b:Int)+20)=(((k+1+1)* 20:Nat):Int):=by rw[wrap64_in _ (by omega) (by omega)];omega
    obtain⟨b2,hb2⟩:∃b2,b2=(k+1+1)* 20:=⟨_,rfl⟩
    rw[←hb2]at w1
    simp -implicitDefEqProofs only[↓reduceIte,go_sem,Nat.reduceLT,Nat.reduceEqDiff,reduceCtorEq,t1,t8,eq_true hbn]
    simp -implicitDefEqProofs only[go_sem,t0,t2,t7]
    refine ae.ok (n5 H id ver hid g caps c ho hc P X Q Lk L1 hc3 hL1 a b n lP (by omega) hlen (by omega)) ?_
    simp -implicitDefEqProofs only[↓reduceIte,go_sem,Nat.reduceLT,Nat.reduceEqDiff,t6,t8,w1]
    refine⟨_,_,k+1,ay.refl _ _,⟨by omega,⟨L1,rfl,hst1,lL1,hso1⟩,?_⟩,by omega⟩
    rw[←hb,←hb2]
    simp -implicitDefEqProofs only[↓reduceIte,go_sem,Nat.reduceLT,Nat.reduceEqDiff,reduceCtorEq,t0,t1,t2,t6]
   ·simp -implicitDefEqProofs only[↓reduceIte,go_sem,Nat.reduceLT,Nat.reduceEqDiff,reduceCtorEq,t1,t8,eq_false hbn]
    refine⟨⟨Lk,rfl,hst,hlen,k,by omega,by omega,hso,?_⟩,?_⟩
    ·rw[←ha];simp -implicitDefEqProofs only[go_sem,t7]
    ·simp -implicitDefEqProofs only[go_sem,t0,t2,t6]
 rintro s H' ⟨⟨Lk,rfl,hst,hlen,k,hk1,hk2,hso,t7⟩,t0,t1,t2,t6⟩
 obtain⟨a,ha⟩:∃a,a=k* 20:=⟨_,rfl⟩
 rw[←ha]at t7
 have hc3:Lk=Lk.take a++Lk.drop a++[]:=by simp
 obtain⟨L1,hL1⟩:∃L1,L1=Lk.take a++St.ct (ec c) (Lk.drop a)++[]:=⟨_,rfl⟩
 have lP:(Lk.take a).length=a:=by rw[List.length_take];omega
 have lX:(Lk.drop a).length=n-a:=by rw[List.length_drop];omega
 have lL1:L1.length=n:=by rw[hL1];simp only[List.length_append,St.dm,lP,lX,List.length_nil];omega
 have hst1:St.dD (ec c) L1 L:=by
  refine St.dD.trans ?_ hst
  rw[hL1]
  have:=St.mH ho (Lk.take a) (Lk.drop a) []
  rwa[←hc3]at this
 have hb1:∀j,St.aR (ec c) (St.nh 20 j L1):=by
  intro j
  rcases Nat.lt_or_ge j (k+1)with h|h
  ·rw[hL1]
   exact St.nZ ho (by omega) (by rw[←hc3];exact hso) (.inr ⟨by omega,rfl⟩) j h
  ·have:=Nat.mul_le_mul_right 20 h
   rw[St.Du (by omega)]
   exact List.Pairwise.nil
 simp -implicitDefEqProofs only[↓reduceIte,go_sem,Nat.reduceLT,Nat.reduceEqDiff,t0,t1,t2,t7]
 refine ae.ok (n5 H id ver hid g caps c ho hc _ _ _ Lk L1 hc3 hL1 a n n lP (by omega) hlen (by omega)) ?_
 clear hc3 hL1 lP lX hst hso hlen
 simp -implicitDefEqProofs only[go_sem]
 refine cl _ _ _ _ (fun(z:Nat) s H'=>20≤z∧z≤2* n+20∧(∃Lk,H'=aH H id ver Lk∧St.dD (ec c) Lk L∧Lk.length=n∧∀j,St.aR (ec c) (St.nh z j Lk))∧s 0= .sl id ver 0 n∧s 1=iA n∧s 2= .fn g caps∧s 6=iA z) (fun z=>n-z) 20 (ay.refl _ _) ?_ ?_
 ·refine⟨Nat.le_refl _,by omega,⟨L1,rfl,hst1,lL1,hb1⟩,?_⟩
  simp -implicitDefEqProofs only[↓reduceIte,go_sem,Nat.reduceEqDiff,reduceCtorEq,t0,t1,t2,t6]
 clear hb1 hst1 lL1 t0 t1 t2 t6 t7 hk1 hk2 ha
 rintro z s H' ⟨hz1,hz2,⟨Lk,rfl,hst,hlen,hbl⟩,t0,t1,t2,t6⟩
 by_cases hzn:z<n
 ·have w1:IntKind.i64.wrap (2* (z:Int))=((2* z:Nat):Int):=by rw[wrap64_in _ (by omega) (by omega)];omega
  have w1':IntKind.i64.wrap ((z:Int)* 2)=((2* z:Nat):Int):=by rw[wrap64_in _ (by omega) (by omega)];omega
  obtain⟨y,hy⟩:∃y,y=2* z:=⟨_,rfl⟩
  rw[←hy]at w1 w1'
  simp -implicitDefEqProofs only[↓reduceIte,go_sem,Nat.reduceLT,Nat.reduceEqDiff,t1,t6,eq_true hzn,w1]
  refine n4 (fun s H'=>(∃Lk,H'=aH H id ver Lk∧St.dD (ec c) Lk L∧Lk.length=n∧∃k a,a=k* y∧a=2* k* z∧a≤n∧n<a+y∧(∀j,j<k→St.aR (ec c) (St.nh y j Lk))∧(∀j,2* k≤j→St.aR (ec c) (St.nh z j Lk))∧s 7=iA a)∧s 0= .sl id ver 0 n∧s 1=iA n∧s 2= .fn g caps∧s 6=iA z) rfl ?_ ?_
  ·refine cl _ _ _ _ (fun(k:Nat) s H'=>(∃a,a=k* y∧a=2* k* z∧a≤n∧s 7=iA a∧s 8=iA ((a+y:Nat):Int))∧(∃Lk,H'=aH H id ver Lk∧St.dD (ec c) Lk L∧Lk.length=n∧(∀j,j<k→St.aR (ec c) (St.nh y j Lk))∧(∀j,2* k≤j→St.aR (ec c) (St.nh z j Lk)))∧s 0= .sl id ver 0 n∧s 1=iA n∧s 2= .fn g caps∧s 6=iA z) (fun k=>n+1-k* y) 0 (ay.refl _ _) ?_ ?_
   ·refine⟨⟨0,by omega,by omega,by omega,?_⟩,⟨Lk,rfl,hst,hlen,fun j hj=>by omega,fun j _=>hbl j⟩,?_⟩
    ·simp -implicitDefEqProofs only[↓reduceIte,go_sem,Nat.reduceLT,Nat.reduceEqDiff,Nat.zero_add]
    ·simp -implicitDefEqProofs only[↓reduceIte,go_sem,Nat.reduceEqDiff,reduceCtorEq,t0,t1,t2,t6]
   clear hst hlen hbl Lk t0 t1 t2 t6
   rintro k s H' ⟨⟨a,ha,ha2,han,t7,t8⟩,⟨Lk,rfl,hst,hlen,hso,hso2⟩,t0,t1,t2,t6⟩
   obtain⟨b,hb⟩:∃b,b=a+y:=⟨_,rfl⟩
   rw[←hb]at t8
   have hk1:(k+1)* y=a+y:=by rw[Nat.add_mul,←ha,Nat.one_mul]
   have hk2:2* (k+1)* z=a+2* z:=by rw[Nat.mul_add,Nat.add_mul,←ha2]
   have hk3:(2* k+1)* z=a+z:=by rw[Nat.add_mul,←ha2,Nat.one_mul]
   by_cases hbn:b≤n
   ·obtain⟨P,hP⟩:∃P,P=Lk.take a:=⟨_,rfl⟩
    obtain⟨X,hX⟩:∃X,X=(Lk.drop a).take z:=⟨_,rfl⟩
    obtain⟨Y,hY⟩:∃Y,Y=(Lk.drop (a+z)).take z:=⟨_,rfl⟩
    obtain⟨Q,hQ⟩:∃Q,Q=Lk.drop (a+z+z):=⟨_,rfl⟩
    have hc4:Lk=P++X++Y++Q:=by rw[hP,hX,hY,hQ,St.MD]
    have hc5:Lk=P++(X++Y)++Q:=by rw[hc4];simp
    have lP:P.length=a:=by rw[hP,List.length_take];omega
    have lX:X.length=z:=by rw[hX,List.length_take,List.length_drop];omega
    have lY:Y.length=z:=by rw[hY,List.length_take,List.length_drop];omega
    have lXY:(X++Y).length=y:=by rw[List.length_append];omega
    have sX:St.aR (ec c) X:=by have:=hso2 (2* k) (Nat.le_refl _);rw[St.nh,←ha2,←hX]at this;exact this
    have sY:St.aR (ec c) Y:=by have:=hso2 (2* k+1) (by omega);rw[St.nh,hk3,←hY]at this;exact this
    obtain⟨L1,hL1⟩:∃L1,L1=P++St.ct (ec c) (X++Y)++Q:=⟨_,rfl⟩
    have lL1:L1.length=n:=by rw[hL1,←hlen,hc5];simp[St.dm];try omega
    have hst1:St.dD (ec c) L1 L:=by
     refine St.dD.trans ?_ hst
     rw[hL1,hc5];exact St.mH ho P (X++Y) Q
    have hso1:∀j,j<k+1→St.aR (ec c) (St.nh y j L1):=by
     rw[hL1];exact St.nZ ho (by omega) (by rw[←hc5];exact hso) (.inl lXY)
    have hso3:∀j,2* (k+1)≤j→St.aR (ec c) (St.nh z j L1):=fun j hj=>by
     have h1:=Nat.mul_le_mul_right z hj
     rw[hL1,St.Cn (X':=X++Y) (St.dm _) (by rw[St.dm,lXY,lP];omega),←hc5]
     exact hso2 j (by omega)
    clear hP hX hY hQ hst hso hso2
    obtain⟨m,hm⟩:∃m,m=a+z:=⟨_,rfl⟩
    obtain⟨b2,hb2⟩:∃b2,b2=b+y:=⟨_,rfl⟩
    have w2:IntKind.i64.wrap ((a:Int)+(z:Int))=(m:Int):=by rw[wrap64_in _ (by omega) (by omega)];omega
    have w3:IntKind.i64.wrap ((b:Int)+(y:Int))=(b2:Int):=by rw[wrap64_in _ (by omega) (by omega)];omega
    simp -implicitDefEqProofs only[↓reduceIte,go_sem,Nat.reduceLT,Nat.reduceEqDiff,reduceCtorEq,t1,t8,eq_true hbn]
    simp -implicitDefEqProofs only[↓reduceIte,go_sem,Nat.reduceLT,Nat.reduceEqDiff,t0,t2,t6,t7,t8,w2]
    refine ae.ok (na H id ver hid g caps c ho hc n (by omega) _ P X Y Q Lk L1 a m b (Nat.le_refl _) hc4 hL1 lP (by omega) (by omega) (by omega) (by omega) sX sY hlen) ?_
    simp -implicitDefEqProofs only[↓reduceIte,go_sem,Nat.reduceLT,Nat.reduceEqDiff,t6,t8,w1,w3]
    refine⟨_,_,k+1,ay.refl _ _,⟨⟨b,by omega,by omega,hbn,?_⟩,⟨L1,rfl,hst1,lL1,hso1,hso3⟩,?_⟩,by omega⟩
    ·simp -implicitDefEqProofs only[↓reduceIte,go_sem,Nat.reduceLT,Nat.reduceEqDiff,show((b:Int)+(y:Int))=(b2:Int) by omega]
    ·simp -implicitDefEqProofs only[↓reduceIte,go_sem,Nat.reduceEqDiff,reduceCtorEq,t0,t1,t2,t6]
   ·simp -implicitDefEqProofs only[↓reduceIte,go_sem,Nat.reduceLT,Nat.reduceEqDiff,reduceCtorEq,t1,t8,eq_false hbn]
    refine⟨⟨Lk,rfl,hst,hlen,k,a,ha,ha2,han,by omega,hso,hso2,?_⟩,?_⟩
    ·simp -implicitDefEqProofs only[go_sem,t7]
    ·simp -implicitDefEqProofs only[go_sem,t0,t2,t6]
  clear hst hlen hbl Lk t0 t1 t2 t6
  rintro s H' ⟨⟨Lk,rfl,hst,hlen,k,a,ha,ha2,han,hna,hso,hso2,t7⟩,t0,t1,t2,t6⟩
  have hk3:(2* k+1)* z=a+z:=by rw[Nat.add_mul,←ha2,Nat.one_mul]
  have hk1:(k+1)* y=a+y:=by rw[Nat.add_mul,←ha,Nat.one_mul]
  obtain⟨m,hm⟩:∃m,m=a+z:=⟨_,rfl⟩
  have w2:IntKind.i64.wrap ((a:Int)+(z:Int))=(m:Int):=by rw[wrap64_in _ (by omega) (by omega)];omega
  have all:∀L1:List aq,L1.length=n→(∀j,j<k+1→St.aR (ec c) (St.nh y j L1))→∀j,St.aR (ec c) (St.nh y j L1):=fun L1 hl h j=>by
   rcases Nat.lt_or_ge j (k+1)with h1|h1
   ·exact h j h1
   ·have:=Nat.mul_le_mul_right y h1
    rw[St.Du (by omega)]
    exact List.Pairwise.nil
  by_cases hmn:m<n
  ·obtain⟨P,hP⟩:∃P,P=Lk.take a:=⟨_,rfl⟩
   obtain⟨X,hX⟩:∃X,X=(Lk.drop a).take z:=⟨_,rfl⟩
   obtain⟨Y,hY⟩:∃Y,Y=(Lk.drop (a+z)).take z:=⟨_,rfl⟩
   have hQ:Lk.drop (a+z+z)=[]:=List.drop_of_length_le (by omega)
   have hc4:Lk=P++X++Y++[]:=by rw[hP,hX,hY,←hQ,St.MD]
   have hc5:Lk=P++(X++Y)++[]:=by rw[hc4];simp
   have lP:P.length=a:=by rw[hP,List.length_take];omega
   have lX:X.length=z:=by rw[hX,List.length_take,List.length_drop];omega
   have lY:Y.length=n-m:=by rw[hY,List.length_take,List.length_drop];omega
   have lXY:(X++Y).length≤y:=by rw[List.length_append];omega
   have sX:St.aR (ec c) X:=by have:=hso2 (2* k) (Nat.le_refl _);rw[St.nh,←ha2,←hX]at this;exact this
   have sY:St.aR (ec c) Y:=by have:=hso2 (2* k+1) (by omega);rw[St.nh,hk3,←hY]at this;exact this
   obtain⟨L1,hL1⟩:∃L1,L1=P++St.ct (ec c) (X++Y)++[]:=⟨_,rfl⟩
   have lL1:L1.length=n:=by rw[hL1,←hlen,hc5];simp[St.dm];try omega
   have hst1:St.dD (ec c) L1 L:=by
    refine St.dD.trans ?_ hst
    rw[hL1]
    have:=St.mH ho P (X++Y) []
    rwa[←hc5]at this
   have hso1:∀j,j<k+1→St.aR (ec c) (St.nh y j L1):=by
    rw[hL1];exact St.nZ ho (by omega) (by rw[←hc5];exact hso) (.inr ⟨lXY,rfl⟩)
   clear hP hX hY hQ hst hso hso2
   simp -implicitDefEqProofs only[↓reduceIte,go_sem,Nat.reduceLT,Nat.reduceEqDiff,reduceCtorEq,t1,t6,t7,w2,eq_true hmn]
   simp -implicitDefEqProofs only[go_sem,t0,t2]
   refine ae.ok (na H id ver hid g caps c ho hc n (by omega) _ P X Y [] Lk L1 a m n (Nat.le_refl _) hc4 hL1 lP (by omega) (by omega) (by omega) (by omega) sX sY hlen) ?_
   simp -implicitDefEqProofs only[↓reduceIte,go_sem,Nat.reduceLT,Nat.reduceEqDiff,t6,w1']
   refine⟨_,_,y,ay.refl _ _,⟨by omega,by omega,⟨L1,rfl,hst1,lL1,all L1 lL1 hso1⟩,?_⟩,by omega⟩
   simp -implicitDefEqProofs only[↓reduceIte,go_sem,Nat.reduceLT,Nat.reduceEqDiff,reduceCtorEq,t0,t1,t2]
  ·have hso1:∀j,j<k+1→St.aR (ec c) (St.nh y j Lk):=fun j hj=>by
    rcases Nat.lt_or_ge j k with h|h
    ·exact hso j h
    ·obtain rfl:j=k:=by omega
     have h1:=hso2 (2* j) (Nat.le_refl _)
     unfold St.nh at h1⊢
     rw[←ha2,List.take_of_length_le (by rw[List.length_drop];omega)]at h1
     rw[←ha,List.take_of_length_le (by rw[List.length_drop];omega)]
     exact h1
   simp -implicitDefEqProofs only[↓reduceIte,go_sem,Nat.reduceLT,Nat.reduceEqDiff,t1,t6,t7,w2,eq_false hmn,w1']
   refine⟨_,_,y,ay.refl _ _,⟨by omega,by omega,⟨Lk,rfl,hst,hlen,all Lk hlen hso1⟩,?_⟩,by omega⟩
   simp -implicitDefEqProofs only[↓reduceIte,go_sem,Nat.reduceLT,Nat.reduceEqDiff,reduceCtorEq,t0,t1,t2]
 ·simp -implicitDefEqProofs only[↓reduceIte,go_sem,Nat.reduceLT,Nat.reduceEqDiff,t1,t6,eq_false hzn]
  have h0:=hbl 0
  unfold St.nh at h0
  rw[Nat.zero_mul,List.drop_zero,List.take_of_length_le (by omega)]at h0
  rw[←hE1,St.oh ho h0 hst]
  exact⟨_,ay.refl _ _,rfl⟩
theorem Ek(H:aa)(id ver:Nat)(hid:id<H.length)(g:FuncId)(caps:List AV)(c:aq→aq→Int)(ho:St.Ord (ec c))(hc:oX g caps c H id)(n:Nat)(hbig:n≤100000000000)(L:List aq)(hn:L.length=n):
  ag Tryz.prog 152 [.sl id ver 0 n,.fn g caps] (aH H id ver L) (.ok (.bz [])) (aH H id ver (St.ct (ec c) L)):=by
 have gh:=jy hid ver L
 have hs:=Aa H id ver hid g caps c ho hc n hbig L hn
 generalize aH H id ver L=E0 at*
 refine ag.aj (hint:=(fun _=>false)) Tryz.func152 (by kernel_rfl) rfl [] (by kernel_rfl) (by decide) (by simp[Tryz.ntmps152]) ?_
 rw[Tryz.ntmps152]
 simp -implicitDefEqProofs only[↓reduceIte,go_sem,Nat.reduceLT,Nat.reduceEqDiff,reduceCtorEq,gh]
 refine ae.ok hs ?_
 simp -implicitDefEqProofs only[go_sem]
 exact⟨_,ay.refl _ _,rfl⟩
end SV
end Go.Proofs.YtmbagpfmfiegkaaGreat
namespace Go.Proofs.YtmbagpfmfiegkaaGreat
open Go.Proofs.YtmbagpfmfiegkaaGreatAw Go.RowKit
namespace SV
def NP(g:FuncId)(caps:List AV)(c:aq→aq→Bool)(H:aa)(id:Nat):Prop:=∀(o:aT) (x y:aq),ag Tryz.prog g ([.agg ((aq.enc x).map .d),.agg ((aq.enc y).map .d)]++caps) (H.set id o) (.ok (bA (c x y))) (H.set id o)
def Fm:List D:=[iD 0,iD 0,.v (.string ⟨#[]⟩)]
def u0(H:aa)(id ver:Nat)(c:aq→aq→Bool)(L:List aq):aa:=H.set id (.arr 25 3 ver ((St.bC c L).map aq.enc++List.replicate (L.length-(St.bC c L).length) Fm))
theorem sq(H:aa)(id ver:Nat)(c:aq→aq→Bool)(L:List aq)(h:St.bC c L=L):u0 H id ver c L=aH H id ver L:=by
 unfold u0 aH
 rw[h,Nat.sub_self,List.replicate_zero,List.append_nil]
theorem wV(H:aa)(id ver:Nat)(hid:id<H.length)(g:FuncId)(caps:List AV)(c:aq→aq→Bool)(hc:NP g caps c H id)(n:Nat)(hbig:n≤100000000000)(L:List aq)(hn:L.length=n):
  ag Tryz.prog 153 [.sl id ver 0 n,.fn g caps] (aH H id ver L) (.ok (.sl id ver 0 (St.bC c L).length)) (u0 H id ver c L):=by
 have gh:=jy hid ver L
 have hcE:∀M:List aq,∀x y:aq,ag Tryz.prog g ([.agg ((aq.enc x).map .d),.agg ((aq.enc y).map .d)]++caps) (aH H id ver M) (.ok (bA (c x y))) (aH H id ver M):=fun M x y=>hc _ x y
 generalize hE1:u0 H id ver c L=E1
 by_cases h2:n<2
 ·have hsame:St.bC c L=L:=by
   cases L with
   |nil=>rfl
   |cons x t=>
    cases t with
    |nil=>rfl
    |cons y t=>simp at hn;omega
  have he:aH H id ver L=E1:=by rw[←hE1,sq _ _ _ _ _ hsame]
  rw[hsame,hn]
  generalize aH H id ver L=E0 at*
  subst he
  refine ag.aj (hint:=(fun _=>false)) Tryz.func153 (by kernel_rfl) rfl [4] (by kernel_rfl) (by decide) (by simp[Tryz.ntmps153]) ?_
  rw[Tryz.ntmps153]
  simp -implicitDefEqProofs only[↓reduceIte,go_sem,Nat.reduceLT,reduceCtorEq,gh,show((n:Int)<2)=True from eq_true (by omega)]
  refine aw.aI ?_
  simp -implicitDefEqProofs only[↓reduceIte,go_sem,Nat.reduceLT]
 generalize hE0:aH H id ver L=E0 at gh
 refine ag.aj (hint:=(fun _=>false)) Tryz.func153 (by kernel_rfl) rfl [4] (by kernel_rfl) (by decide) (by simp[Tryz.ntmps153]) ?_
 rw[Tryz.ntmps153]
 simp -implicitDefEqProofs only[↓reduceIte,go_sem,Nat.reduceLT,reduceCtorEq,gh,show((n:Int)<2)=False from eq_false (by omega)]
 refine aP (fun k s H'=>H'=E0∧St.bC c (L.take (k+1))=L.take (k+1)∧s 0= .sl id ver 0 n∧s 1= .fn g caps∧s 5=iA ((k:Int)+1)) (n-1) (by omega) (ay.refl _ _) ?_ ?_ ?_
 ·refine⟨rfl,?_,?_⟩
  ·cases L<;>rfl
  ·simp -implicitDefEqProofs only[↓reduceIte,go_sem,Nat.reduceLT,Nat.reduceEqDiff,Int.reduceAdd,reduceCtorEq]
 ·rintro k s H' hk hw ⟨rfl,hp,t0,t1,t5⟩
  obtain⟨q,hq⟩:∃q,q=k+1:=⟨_,rfl⟩
  obtain⟨x,hx⟩:∃x,L[q]?=some x:=⟨_,List.getElem?_eq_getElem (by omega)⟩
  obtain⟨y,hy⟩:∃y,L[k]?=some y:=⟨_,List.getElem?_eq_getElem (by omega)⟩
  have e1:L.take (q+1)=L.take q++[x]:=by rw[List.take_add_one,hx];rfl
  have hsn:St.bC c (L.take (q+1))=St.bC c (L.take q)++(if c x y=true then[]else[x]):=by
   rw[e1]
   exact St.nj (k:=k) (by rw[List.length_take];omega) (by rw[List.getElem?_take,if_pos (by omega)];exact hy)
  rw[←hq]at hp
  have f1:((k:Int)+1)=(q:Int):=by omega
  rw[f1]at t5
  have gx:=dg hx
  have gy:=dg hy
  have hd:=hcE L x y
  rw[hE0]at hd
  have w1:IntKind.i64.wrap ((q:Int)-1)=(k:Int):=by rw[wrap64_in _ (by omega) (by omega)];omega
  have w2:IntKind.i64.wrap ((q:Int)+1)=(q:Int)+1:=wrap64_in _ (by omega) (by omega)
  have hqn:q<n:=by omega
  have hkn:k<n:=by omega
  simp only[aq.enc]at gx gy
  simp only[aq.enc,List.map_cons,List.map_nil]at hd
  simp -implicitDefEqProofs only[↓reduceIte,go_sem,Nat.reduceLT,Nat.reduceEqDiff,reduceCtorEq,t0,t5,gh,eq_true hqn]
  refine aO K.mixed (by kernel_rfl) ?_
  simp -implicitDefEqProofs only[↓reduceIte,go_sem,ah,Nat.reduceAdd,Nat.reduceLT,Nat.reduceEqDiff,reduceCtorEq,t0,t1,t5,gh,gx,gy,hqn,hkn,w1]
  refine ae.ok hd ?_
  cases hcc:c x y with
  |false=>
   rw[hcc]at hsn
   simp -implicitDefEqProofs only[↓reduceIte,go_sem,Nat.reduceLT,Nat.reduceEqDiff,t5,w2]
   refine c9.same ⟨rfl,?_,?_⟩
   ·rw[←hq,hsn,hp,e1];rfl
   ·simp -implicitDefEqProofs only[↓reduceIte,go_sem,Nat.reduceLT,Nat.reduceEqDiff,reduceCtorEq,t0,t1,show((k:Int)+1)=(q:Int) by omega]
  |true=>
   rw[hcc]at hsn
   have hsn2:St.bC c (L.take (q+1))=L.take q:=by rw[hsn,hp];simp
   simp -implicitDefEqProofs only[↓reduceIte,go_sem,Nat.reduceLT,Nat.reduceEqDiff,reduceCtorEq,t0,t5,gh]
   refine⟨by omega,.inr (by omega),?_⟩
   have hnq:((n:Int).toNat-q)=n-q:=by omega
   refine aP (fun k2 s H'=>(∃C K1,H'=aH H id ver C∧C=K1++L.drop K1.length∧K1=St.bC c (L.take (q+k2+1))∧K1.length≤q+k2∧s 5=iA K1.length)∧s 0= .sl id ver 0 n∧s 1= .fn g caps∧s 6= .sl id ver q (n-q)∧s 7=iA ((k2:Int)+1)) (n-q-1) (by omega) (ay.refl _ _) ?_ ?_ ?_
   ·refine⟨⟨L,L.take q,hE0.symm,?_,?_,?_,?_⟩,?_⟩
    ·rw[List.length_take,Nat.min_eq_left (by omega),List.take_append_drop]
    ·rw[Nat.add_zero];exact hsn2.symm
    ·rw[List.length_take];omega
    ·rw[List.length_take,Nat.min_eq_left (by omega)];simp -implicitDefEqProofs only[↓reduceIte,go_sem,Nat.reduceEqDiff,t5]
    ·simp -implicitDefEqProofs only[↓reduceIte,go_sem,Nat.reduceLT,Nat.reduceEqDiff,Int.reduceAdd,reduceCtorEq,t0,t1]
   ·rintro k2 s H' hk2 hw3 ⟨⟨C,K1,rfl,hC,hK1,hKl,t5⟩,t0,t1,t6,t7⟩
    obtain⟨u,hu⟩:∃u,u=k2+1:=⟨_,rfl⟩
    obtain⟨v,hv⟩:∃v,v=q+u:=⟨_,rfl⟩
    obtain⟨x2,hx2⟩:∃x,L[v]?=some x:=⟨_,List.getElem?_eq_getElem (by omega)⟩
    obtain⟨y2,hy2⟩:∃y,L[v-1]?=some y:=⟨_,List.getElem?_eq_getElem (by omega)⟩
    have hCg:∀i,K1.length≤i→C[i]?=L[i]?:=fun i hi=>by
     rw[hC,List.getElem?_append_right hi,List.getElem?_drop,Nat.add_sub_cancel' hi]
    have hCl:C.length=n:=by rw[hC,List.length_append,List.length_drop];omega
    have e2:L.take (v+1)=L.take v++[x2]:=by rw[List.take_add_one,hx2];rfl
    have hsn3:St.bC c (L.take (v+1))=K1++(if c x2 y2=true then[]else[x2]):=by
     rw[e2,hK1,show q+k2+1=v by omega]
     exact St.nj (k:=v-1) (by rw[List.length_take];omega) (by rw[List.getElem?_take,if_pos (by omega)];exact hy2)
    have gx2:=dg ((hCg v (by omega)).trans hx2)
    have gy2:=dg ((hCg (v-1) (by omega)).trans hy2)
    have hd2:=hcE C x2 y2
    have gC:=jy hid ver C
    have f2:((k2:Int)+1)=(u:Int):=by omega
    rw[f2]at t7
    have w3:IntKind.i64.wrap ((u:Int)-1)=(k2:Int):=by rw[wrap64_in _ (by omega) (by omega)];omega
    have w4:IntKind.i64.wrap ((u:Int)+1)=(u:Int)+1:=wrap64_in _ (by omega) (by omega)
    have f3:q+u=v:=hv.symm
    have f4:q+k2=v-1:=by omega
    have hun:u<n-q:=by omega
    have hkn2:k2<n-q:=by omega
    simp only[aq.enc]at gx2 gy2
    simp only[aq.enc,List.map_cons,List.map_nil]at hd2
    simp -implicitDefEqProofs only[↓reduceIte,go_sem,Nat.reduceLT,Nat.reduceEqDiff,t6,t7,gC,eq_true hun]
    refine aO K.mixed (by kernel_rfl) ?_
    simp -implicitDefEqProofs only[↓reduceIte,go_sem,ah,Nat.reduceAdd,Nat.reduceLT,Nat.reduceEqDiff,t1,t6,t7,gC,w3,hun,hkn2,f3,f4,gx2,gy2]
    refine ae.ok hd2 ?_
    cases hc2:c x2 y2 with
    |true=>
     rw[hc2]at hsn3
     simp -implicitDefEqProofs only[↓reduceIte,go_sem,Nat.reduceLT,Nat.reduceEqDiff,t7,w4]
     refine c9.same ⟨⟨C,K1,rfl,hC,?_,by omega,?_⟩,?_⟩
     ·rw[show q+(k2+1)+1=v+1 by omega,hsn3];simp
     ·simp -implicitDefEqProofs only[↓reduceIte,go_sem,Nat.reduceEqDiff,t5]
     ·simp -implicitDefEqProofs only[↓reduceIte,go_sem,Nat.reduceLT,Nat.reduceEqDiff,reduceCtorEq,t0,t1,t6,show((k2:Int)+1)=(u:Int) by omega]
    |false=>
     rw[hc2]at hsn3
     obtain⟨r,hr⟩:∃r,r=K1.length:=⟨_,rfl⟩
     rw[←hr]at t5
     have hrn:r<n:=by omega
     have w5:IntKind.i64.wrap ((r:Int)+1)=((r+1:Nat):Int):=by rw[wrap64_in _ (by omega) (by omega)];omega
     obtain⟨r2,hr2⟩:∃r2,r2=r+1:=⟨_,rfl⟩
     rw[←hr2]at w5
     have s1:=jc C r x2
     obtain⟨z0,hz0⟩:∃z,C[r]?=some z:=⟨_,List.getElem?_eq_getElem (by omega)⟩
     have gz:=dg hz0
     simp only[aq.enc]at s1 gz
     simp -implicitDefEqProofs only[↓reduceIte,go_sem,ah,au,Nat.reduceAdd,Nat.reduceLT,Nat.reduceEqDiff,reduceCtorEq,t0,t5,t6,t7,gC,hun,hrn,f3,gx2,gz,s1,pN,w4,w5]
     refine c9.same ⟨⟨C.set r x2,K1++[x2],by rw[←oY],?_,?_,?_,?_⟩,?_⟩
     ·have e3:L.drop r=L[r]'(by omega)::L.drop (r+1):=List.drop_eq_getElem_cons (by omega)
      rw[hC,←hr,e3,jq hr.symm];simp[hr]
     ·rw[show q+(k2+1)+1=v+1 by omega,hsn3];simp
     ·rw[List.length_append,List.length_singleton];omega
     ·simp -implicitDefEqProofs only[↓reduceIte,go_sem,Nat.reduceLT,Nat.reduceEqDiff,List.length_append,show((K1.length:Int)+1)=(r2:Int) by omega]
     ·simp -implicitDefEqProofs only[↓reduceIte,go_sem,Nat.reduceLT,Nat.reduceEqDiff,reduceCtorEq,t0,t1,t6,show((k2:Int)+1)=(u:Int) by omega]
   ·rintro s H' ⟨⟨C,K1,rfl,hC,hK1,hKl,t5⟩,t0,t1,t6,t7⟩
    have hK2:St.bC c L=K1:=by rw[hK1,List.take_of_length_le (by omega)]
    have hCl:C.length=n:=by rw[hC,List.length_append,List.length_drop];omega
    have gC:=jy hid ver C
    have hlt:((((n-q-1:Nat):Int)+1)<((n-q:Nat):Int))=False:=eq_false (by omega)
    obtain⟨r,hr⟩:∃r,r=K1.length:=⟨_,rfl⟩
    rw[←hr]at t5
    have hrn:((n:Int).toNat-r)=n-r:=by omega
    have hCt:C.take r=K1:=by rw[hC,hr,List.take_left]
    have hsr:cB (C.map aq.enc) r (lE (.agg #[.int .i64 0,.int .i64 0,.string ⟨#[]⟩]) (n-r))=(St.bC c L).map aq.enc++List.replicate (L.length-(St.bC c L).length) Fm:=by
     unfold cB
     rw[←List.map_take,hCt,List.drop_of_length_le (by simp[lE];omega),List.append_nil,hK2,hn,←hr]
     rfl
    have hfo:H.set id (.arr 25 3 ver ((St.bC c L).map aq.enc++List.replicate (L.length-(St.bC c L).length) Fm))=E1:=hE1
    have gE:E1[id]?=some (.arr 25 3 ver ((St.bC c L).map aq.enc++List.replicate (L.length-(St.bC c L).length) Fm)):=by rw[←hfo];simp[hid]
    simp -implicitDefEqProofs only[↓reduceIte,go_sem,Nat.reduceAdd,Nat.reduceLT,Nat.reduceEqDiff,reduceCtorEq,t0,t5,t6,t7,gC,hlt]
    refine⟨by omega,.inr (by omega),?_⟩
    rw[hsr,pN,hfo]
    simp -implicitDefEqProofs only[↓reduceIte,go_sem,Nat.reduceLT,Int.reduceLE,Int.reduceToNat,gE]
    refine⟨by omega,.inl trivial,_,ay.refl _ _,?_⟩
    simp -implicitDefEqProofs only[↓reduceIte,go_sem,Nat.reduceLT,hK2,←hr,Nat.sub_zero]
 ·rintro s H' ⟨rfl,hp,t0,t1,t5⟩
  have hsame:St.bC c L=L:=by rwa[show n-1+1=n by omega,←hn,List.take_length]at hp
  have he:H'=E1:=by rw[←hE1,sq _ _ _ _ _ hsame,hE0]
  simp -implicitDefEqProofs only[↓reduceIte,go_sem,Nat.reduceLT,Nat.reduceEqDiff,reduceCtorEq,t0,t5,gh,show(((n-1:Nat):Int)+1<(n:Int))=False from eq_false (by omega)]
  rw[←he,hsame,hn]
  refine aw.aI ?_
  simp -implicitDefEqProofs only[↓reduceIte,go_sem,Nat.reduceLT]
end SV
end Go.Proofs.YtmbagpfmfiegkaaGreat
namespace Go.Proofs.YtmbagpfmfiegkaaGreat
open Go.Proofs.YtmbagpfmfiegkaaGreatAw Go.RowKit
def L9(a b:aq):Bool:=decide (aM a b=0)
theorem zG(a b:aq)(H:aa):ag Tryz.prog 154 [a.av,b.av] H (.ok (bA (L9 a b))) H:=by
 refine ag.aj (hint:=(fun _=>false)) Tryz.func154 (by kernel_rfl) rfl [4] (by kernel_rfl) (by decide) (by simp[Tryz.ntmps154]) ?_
 rw[Tryz.ntmps154]
 simp -implicitDefEqProofs only[↓reduceIte,go_sem,ah,Nat.reduceAdd,Nat.reduceLT,Nat.reduceEqDiff]
 refine ae.ok (eW a b _) ?_
 simp -implicitDefEqProofs only[↓reduceIte,go_sem,Nat.reduceLT]
 refine aw.ret ?_
 simp -implicitDefEqProofs only[↓reduceIte,go_sem,Nat.reduceLT,L9]
theorem BS{α:Type}(c:α→α→Int)(l:List α):(a7 c l).length≤l.length:=by
 have h:=St.ln (eq:=fun a b=>decide (c a b=0)) (St.ct (iR c) l)
 rwa[St.dm]at h
theorem A2(l:List aq)(nn:Bool)(H:aa)(hl:l.length≤10000000000):ag Tryz.prog 119 [.d (.list nn (l.map aq.enc))] H (.ok (.d (.list false ((a7 aM l).map aq.enc)))) H:=by
 have ho:St.Ord (SV.ec aM):=aG.ord
 obtain⟨H1,hH1⟩:∃H1,H1=H++[aT.arr 25 3 1 (l.map aq.enc)]:=⟨_,rfl⟩
 have hid:H.length<H1.length:=by rw[hH1];simp
 have e0:H1=SV.aH H1 H.length 1 l:=by
  unfold SV.aH
  rw[hH1];simp
 have hs:=SV.Ek H1 H.length 1 hid 63 [] aM ho (fun o x y=>eW x y _) l.length (by omega) l rfl
 rw[←e0]at hs
 have hc:=SV.wV H1 H.length 1 hid 154 [] L9 (fun o x y=>zG x y _) l.length (by omega) (St.ct (SV.ec aM) l) (St.dm _)
 have hk:=SV.CL l nn H (by omega)
 rw[←hH1]at hk
 have hn:St.bC L9 (St.ct (SV.ec aM) l)=a7 aM l:=rfl
 have hfin:SV.u0 H1 H.length 1 L9 (St.ct (SV.ec aM) l)=H++[aT.arr 25 3 1 ((a7 aM l).map aq.enc++List.replicate (l.length-(a7 aM l).length) SV.Fm)]:=by
  unfold SV.u0
  rw[hH1,St.dm,hn]
  simp
 refine ag.aj (hint:=(fun _=>false)) Tryz.func119 (by kernel_rfl) rfl [2] (by kernel_rfl) (by decide) (by simp[Tryz.ntmps119]) ?_
 rw[Tryz.ntmps119]
 simp -implicitDefEqProofs only[↓reduceIte,go_sem,Nat.reduceLT,reduceCtorEq]
 refine ae.ok hk ?_
 simp -implicitDefEqProofs only[↓reduceIte,go_sem,Nat.reduceLT]
 refine ae.ok hs ?_
 simp -implicitDefEqProofs only[↓reduceIte,go_sem,Nat.reduceLT,Nat.reduceEqDiff]
 refine ae.ok hc ?_
 rw[hfin]
 simp -implicitDefEqProofs only[↓reduceIte,go_sem,Nat.reduceLT,hn]
 refine aw.ret ?_
 have ht:((a7 aM l).map aq.enc++List.replicate (l.length-(a7 aM l).length) SV.Fm).take (a7 aM l).length=(a7 aM l).map aq.enc:=by rw[List.take_left' (by simp)]
 simp -implicitDefEqProofs only[↓reduceIte,go_sem,Nat.reduceLT,ht]
theorem kM.C5{α:Type}{c:α→α→Int}(h:kM c){x y z:α}(e:c x y=0):c x z<0↔c y z<0:=by
 have e':=(h.zero x y).1 e
 constructor
 ·intro g
  rcases h.dw x y z g with g1|g1
  ·omega
  ·exact g1
 ·intro g
  rcases h.dw y x z g with g1|g1
  ·omega
  ·exact g1
def lr(W:List aq):Prop:=W.Pairwise (fun x y=>iR aM x y=true)
theorem lr.get{W:List aq}(h:lr W){i j:Nat}{x y:aq}(hx:W[i]?=some x)(hy:W[j]?=some y):aM x y<0↔i<j:=by
 have key:∀{i j:Nat} {x y:aq},W[i]?=some x→W[j]?=some y→i<j→aM x y<0:=by
  intro i j x y hx hy hij
  obtain⟨h1,rfl⟩:=List.getElem?_eq_some_iff.1 hx
  obtain⟨h2,rfl⟩:=List.getElem?_eq_some_iff.1 hy
  have:=List.pairwise_iff_getElem.1 h i j h1 h2 hij
  simpa[iR]using this
 constructor
 ·intro g
  rcases Nat.lt_trichotomy i j with h1|h1|h1
  ·exact h1
  ·subst h1
   rw[hx]at hy;cases hy
   have:=aG.self x
   omega
  ·have:=key hy hx h1
   have:=(aG.fC x y).1 g
   omega
 ·exact key hx hy
theorem lr.below{v:aq}:∀{W:List aq},lr W→∀{i:Nat} {y:aq},W[i]?=some y→(aM y v<0↔i<bS W v)
 |[],_,i,y,hy=>by simp at hy
 |x::t,h,i,y,hy=>by
  have h1:=List.pairwise_cons.1 h
  have hb:bS (x::t) v=bS t v+if aM x v<0 then 1 else 0:=by
   unfold bS
   rw[List.countP_cons]
   by_cases h:aM x v<0<;>simp[h]
  by_cases hx:aM x v<0
  ·rw[hb,if_pos hx]
   cases i with
   |zero=>
    simp at hy;subst hy
    simp[hx]
   |succ i=>
    have:=lr.below (v:=v) h1.2 (i:=i) (y:=y) (by simpa using hy)
    omega
  ·rw[hb,if_neg hx,Nat.add_zero]
   have hz:bS t v=0:=by
    unfold bS
    rw[List.countP_eq_zero]
    intro w hw
    have h2:=h1.1 w hw
    intro h3
    have h4:=aG.ord.trans h2 (show iR aM w v=true by simpa[iR]using h3)
    exact hx (by simpa[iR]using h4)
   rw[hz]
   refine⟨fun g=>?_,fun g=>by omega⟩
   exfalso
   cases i with
   |zero=>simp at hy;subst hy;exact hx g
   |succ i=>
    have hyt:y∈t:=List.mem_of_getElem? (i:=i) (by simpa using hy)
    have:0<bS t v:=by
     unfold bS
     rw[List.countP_pos_iff]
     exact⟨y,hyt,by simpa using g⟩
    omega
theorem lf(l:List aq):lr (a7 aM l):=sj aG l
theorem BY{W:List aq}{a:aq}(h:∃y∈W,aM y a=0):∃(i:Nat) (y:aq),cq W a=i∧W[i]?=some y∧aM y a=0:=by
 obtain⟨y,hy,hc⟩:=h
 have hany:W.any (fun w=>decide (aM w a=0))=true:=List.any_eq_true.2 ⟨y,hy,by simpa using hc⟩
 have hlt:W.findIdx (fun w=>decide (aM w a=0))<W.length:=List.findIdx_lt_length_of_exists ⟨y,hy,by simpa using hc⟩
 refine⟨W.findIdx (fun w=>decide (aM w a=0)),W[W.findIdx (fun w=>decide (aM w a=0))],?_,List.getElem?_eq_getElem hlt,?_⟩
 ·unfold cq qZ
  rw[if_pos hany]
 ·have:=List.findIdx_getElem (w:=hlt)
  simpa using this
theorem jJ{l:List aq}{a:aq}(h:a∈l):∃(i:Nat) (y:aq),cq (a7 aM l) a=i∧(a7 aM l)[i]?=some y∧aM y a=0:=by
 obtain⟨y,hy,hc⟩:=DE aG h
 exact BY ⟨y,hy,(aG.zero a y).1 hc⟩
def eL(l:List aq)(a:aq):Nat:=(cq (a7 aM l) a).toNat
theorem uf(l:List aq):gd (a7 aM l) l=true:=by
 unfold gd
 rw[List.all_eq_true]
 intro a ha
 obtain⟨i,y,hi,_⟩:=jJ ha
 rw[hi];simp
theorem pa(l:List aq):pC (a7 aM l) l= .bz [.d (.list false (us (l.map (eL l)))),iA 0]:=by
 unfold pC wC xx
 rw[uf]
 rfl
def dJ(n:Nat):Nat:=fi (n-1)
theorem og{n:Nat}(h:n≤4096):dJ n≤12:=(fO _ 12).2 (by omega)
theorem HW(n:Nat):cw [n]=fi n:=by simp[cw]
theorem qu(n:Nat)(hn:n≤1000000000000)(H:aa):ag Tryz.prog 122 [iA n] H (.ok (iA (dJ n))) H:=by
 have hw:=fun H=>nQ [n-1] true H (by simp) (by intro x hx;simp at hx;omega)
 rw[HW]at hw
 have m:max (IntKind.i64.wrap ((n:Int)-1)) 0=((n-1:Nat):Int):=by rw[wrap64_in _ (by omega) (by omega)];omega
 have u:=aK (n-1) (by omega)
 have hus:us [n-1]=[[.v (.int .u64 ((n-1:Nat):Int))]]:=rfl
 rw[hus]at hw
 unfold dJ
 generalize ((n-1:Nat):Int)=q at*
 generalize fi (n-1)=r at*
 refine ag.aj (hint:=(fun _=>false)) Tryz.func122 (by kernel_rfl) rfl [2] (by kernel_rfl) (by decide) (by simp[Tryz.ntmps122]) ?_
 rw[Tryz.ntmps122]
 simp -implicitDefEqProofs only[↓reduceIte,go_sem,Nat.reduceLT,Nat.reduceLeDiff,reduceCtorEq,m,u,List.foldl_cons,List.foldl_nil]
 refine ae.ok (hw _) ?_
 simp -implicitDefEqProofs only[↓reduceIte,go_sem,Nat.reduceLT]
 refine aw.aI ?_
 simp -implicitDefEqProofs only[↓reduceIte,go_sem,Nat.reduceLT]
def aY(W:List aq):List Nat:=W.flatMap cW
theorem fG(W:List aq)(v:aq):aY (W++[v])=aY W++cW v:=by simp[aY]
def fY(l:List aq):List Nat:=bp (a7 aM l).length++aY (a7 aM l)++cF (l.map (eL l)) (dJ (a7 aM l).length)
def ju(l:List aq)(k:Int):List Nat:=if aS l k=0 then fY l else[]
theorem eu{l:List aq}{k:Int}(h:aS l k=0):∀v∈l,cA v=true:=by
 unfold aS at h
 intro v hv
 by_cases h1:l.any (fun v=> !cA v)=true
 ·rw[if_pos h1]at h
  repeat' split at h
  all_goals omega
 ·have h2:l.any (fun v=> !cA v)=false:=by simpa using h1
  have:=List.any_eq_false.1 h2 v hv
  simpa using this
theorem zL{l:List aq}{a:aq}(h:a∈l):eL l a<(a7 aM l).length:=by
 obtain⟨i,y,h1,h2,_⟩:=jJ h
 unfold eL
 rw[h1]
 have:=(List.getElem?_eq_some_iff.1 h2).1
 omega
theorem kv(l:List aq):(a7 aM l).length≤l.length:=by
 have h:=St.ln (eq:=fun a b=>decide (aM a b=0)) (St.ct (iR aM) l)
 rwa[St.dm]at h
theorem pH{l:List aq}:∀n∈l.map (eL l),n<2^dJ (a7 aM l).length:=fun n hn=>by
 obtain⟨a,ha,rfl⟩:=List.mem_map.1 hn
 have h1:=zL ha
 have h2:=(fO ((a7 aM l).length-1) (dJ (a7 aM l).length)).1 (Nat.le_refl _)
 omega
theorem dk{v:aq}(hi:-9223372036854775808≤v.i∧v.i≤9223372036854775807)(hm:cA v=true):(cW v).length≤1035:=by
 unfold cW
 have hz:=gM hi.1 hi.2
 by_cases h1:v.kind=1
 ·rw[if_pos h1];have:=bD 10 (fj v.i) (by omega);omega
 rw[if_neg h1]
 by_cases h2:v.kind=2
 ·rw[if_pos h2,fZ];omega
 rw[if_neg h2]
 by_cases h3:v.kind=3
 ·rw[if_pos h3]
  have hs:=mi hm h3
  have:=bD 10 v.s.size (by omega)
  rw[kE,List.length_append,hH]
  omega
 ·rw[if_neg h3];simp
theorem rM(l:List aq)(k:Int)(hok:∀v∈l,eJ v.i)(H:aa)(hl:l.length≤1000000000000):
  ag Tryz.prog 84 [.d (.list false (l.map aq.enc)),iA k] H (.ok (.bz [.d (.list false (aD (ju l k))),iA (aS l k)])) H:=by
 by_cases hp:aS l k=0
 ·have hd:ju l k=fY l:=by unfold ju;rw[if_pos hp]
  have hmay:=eu hp
  have h4:=dO hp
  have hwl:=kv l
  have hW:∀w∈a7 aM l,w∈l:=fun w hw=>eU aG hw
  have hcf:=pH (l:=l)
  have hcd:=fun H=>B3 (a7 aM l) l false false H (by omega) (by omega)
  have hwd:=fun H=>A2 l false H (by omega)
  rw[pa]at hcd
  have hB:fY l=bp (a7 aM l).length++aY (a7 aM l)++cF (l.map (eL l)) (dJ (a7 aM l).length):=rfl
  have hcl:(l.map (eL l)).length=l.length:=by simp
  rw[hd,hp]
  generalize l.map (eL l)=C at*
  generalize a7 aM l=W at*
  have hpk:=cF
  have hwid:=og (n:=W.length) (by omega)
  have l1:=bD 10 W.length (by omega)
  have hWb:∀k,k≤W.length→(aY (W.take k)).length≤k* 1035:=by
   intro k
   induction k with
   |zero=>intro _;simp[aY]
   |succ k ih=>
    intro hk
    have hk':k<W.length:=by omega
    rw[List.take_succ_eq_append_getElem hk',fG,List.length_append]
    have h1:=ih (by omega)
    have hm:=hW _ (List.getElem_mem hk')
    have h2:=dk (hok _ hm) (hmay _ hm)
    omega
  refine ag.aj (hint:=(fun _=>false)) Tryz.func84 (by kernel_rfl) rfl [4,5] (by kernel_rfl) (by decide) (by simp[Tryz.ntmps84]) ?_
  rw[Tryz.ntmps84]
  simp -implicitDefEqProofs only[↓reduceIte,go_sem,Nat.reduceLT,Nat.reduceEqDiff,reduceCtorEq]
  refine ae.ok (fq l k false _ (by omega)) ?_
  rw[hp]
  simp -implicitDefEqProofs only[↓reduceIte,go_sem,Nat.reduceLT,reduceCtorEq]
  refine ae.ok (hwd _) ?_
  simp -implicitDefEqProofs only[↓reduceIte,go_sem,Nat.reduceLT,List.length_map,aK W.length (by omega)]
  refine ae.ok (iH W.length (by omega) _) ?_
  simp -implicitDefEqProofs only[↓reduceIte,go_sem,Nat.reduceLT,Nat.reduceEqDiff,List.length_map]
  refine bW (fun j s H'=>∃ver,H'=H++[.arr 5 1 ver (aD (bp W.length++aY (W.take j)))]∧s 0= .d (.list false (l.map aq.enc))∧s 7= .d (.list false (W.map aq.enc))∧s 8= .sl H.length ver 0 (bp W.length++aY (W.take j)).length∧s 29= .d (.list false (W.map aq.enc))∧s 30=iA W.length∧s 31=iA j) W.length (by omega) (ay.refl _ _) ?_ ?_ ?_
  ·refine⟨(bp W.length).length,?_,?_⟩
   ·rw[show aY (W.take 0)=[]from rfl,List.append_nil]
   ·rw[show aY (W.take 0)=[]from rfl,List.append_nil]
    simp -implicitDefEqProofs only[↓reduceIte,go_sem,Nat.reduceLT,Nat.reduceEqDiff,reduceCtorEq]
  ·rintro j s H' hj hw ⟨ver,rfl,t0,t7,t8,t29,t30,t31⟩
   have hx:=List.getElem?_eq_getElem hj
   have hm:=hW _ (List.getElem_mem hj)
   have hb:=hWb j (by omega)
   have hvl:=dk (hok _ hm) (hmay _ hm)
   have e1:bp W.length++aY (W.take (j+1))=(bp W.length++aY (W.take j))++cW W[j]:=by rw[List.take_succ_eq_append_getElem hj,fG,List.append_assoc]
   have hvd:=fun H=>fX W[j] (hok _ hm) (hmay _ hm) H
   rw[e1]
   have hBl:(bp W.length++aY (W.take j)).length≤11+j* 1035:=by rw[List.length_append];omega
   generalize bp W.length++aY (W.take j)=B at*
   generalize W[j]=w at*
   simp -implicitDefEqProofs only[↓reduceIte,go_sem,ah,au,Nat.reduceAdd,Nat.reduceLT,Nat.reduceEqDiff,t29,t30,t31,hj,hx,aq.enc]
   refine ae.ok (hvd _) ?_
   simp -implicitDefEqProofs only[↓reduceIte,go_sem,Nat.reduceLT,Nat.reduceEqDiff,t8,aL,ai,dh]
   refine⟨by omega,by omega,?_⟩
   simp -implicitDefEqProofs only[↓reduceIte,go_sem,Nat.reduceLT,t31]
   refine c9.cut [.arr 5 1 (ver+1) (aD (B++cW w))] [.box 25 3 0 1 [iA w.kind,iA w.i,sA w.s]] 1 rfl rfl (by simp -implicitDefEqProofs only[go_sem]) ?_
   refine⟨ver+1,rfl,?_⟩
   simp -implicitDefEqProofs only[↓reduceIte,go_sem,Nat.reduceLT,Nat.reduceEqDiff,reduceCtorEq,t0,t7,t29,t30,hw]
  ·rintro s H' ⟨ver,rfl,t0,t7,t8,t29,t30,t31⟩
   rw[show W.take W.length=W from List.take_length]at*
   have hb:=hWb W.length (Nat.le_refl _)
   rw[List.take_length]at hb
   have l3:(cF C (dJ W.length)).length≤100000:=by
    rw[cF,cH,dW]
    have:C.length* dJ W.length≤4096* 12:=Nat.mul_le_mul (by omega) hwid
    omega
   have l4:(bp W.length++aY W).length≤11+4096* 1035:=by rw[List.length_append];omega
   simp -implicitDefEqProofs only[↓reduceIte,go_sem,Nat.reduceLT,Nat.reduceEqDiff,reduceCtorEq,t0,t7,t30,t31]
   refine ae.ok (hcd _) ?_
   simp -implicitDefEqProofs only[↓reduceIte,go_sem,Nat.reduceLT,Nat.reduceEqDiff,t7,List.length_map]
   refine ae.ok (qu W.length (by omega) _) ?_
   simp -implicitDefEqProofs only[↓reduceIte,go_sem,Nat.reduceLT,Nat.reduceEqDiff]
   refine ae.ok (vt C (dJ W.length) (by omega) hcf (by omega) false _) ?_
   rw[hB]
   generalize cF C (dJ W.length)=Z at*
   generalize bp W.length++aY W=B at*
   simp -implicitDefEqProofs only[↓reduceIte,go_sem,Nat.reduceLT,Nat.reduceEqDiff,t8,aL,ai,dh]
   refine⟨by omega,by omega,aw.ret ?_⟩
   have ht:(aD (B++Z)).take (B.length+Z.length)=aD (B++Z):=List.take_of_length_le (by rw[ai,List.length_append];omega)
   simp -implicitDefEqProofs only[↓reduceIte,go_sem,Nat.reduceLT,Nat.reduceEqDiff,ht]
 ·have hd:ju l k=[]:=by unfold ju;rw[if_neg hp]
  rw[hd]
  refine ag.bE (cs:=[.d (.v (.slice none 0 0)),iA (aS l k)]) ?_ (.cons .nil (.cons (.refl _) .nil))
  refine ag.aj (hint:=(fun _=>false)) Tryz.func84 (by kernel_rfl) rfl [4,5] (by kernel_rfl) (by decide) (by simp[Tryz.ntmps84]) ?_
  rw[Tryz.ntmps84]
  simp -implicitDefEqProofs only[↓reduceIte,go_sem,Nat.reduceLT,Nat.reduceEqDiff,reduceCtorEq]
  refine ae.ok (fq l k false _ (by omega)) ?_
  simp -implicitDefEqProofs only[↓reduceIte,go_sem,Nat.reduceLT,Nat.reduceEqDiff,hp]
  refine aw.aI ?_
  simp -implicitDefEqProofs only[↓reduceIte,go_sem,Nat.reduceLT,Nat.reduceEqDiff]
theorem b7(k:Int)(H:aa):ag Tryz.prog 78 [.d (.v (.slice none 0 0)),iA 0,iA k] H (.ok (.bz [.d (.v (.slice none 0 0)),iA (if bJ k then 0 else 1)])) H:=by
 cases hk:bJ k with
 |false=>
  refine ag.aj (hint:=(fun _=>false)) Tryz.func78 (by kernel_rfl) rfl [6,7] (by kernel_rfl) (by decide) (by simp[Tryz.ntmps78]) ?_
  rw[Tryz.ntmps78]
  simp -implicitDefEqProofs only[↓reduceIte,go_sem,ah,Nat.reduceLT,Nat.reduceEqDiff]
  refine ae.ok (gi k _) ?_
  simp -implicitDefEqProofs only[↓reduceIte,go_sem,Nat.reduceLT,hk]
  refine aw.ret ?_
  simp -implicitDefEqProofs only[↓reduceIte,go_sem,Nat.reduceLT,Nat.reduceEqDiff,Bool.false_eq_true]
 |true=>
  refine ag.aj (hint:=(fun _=>false)) Tryz.func78 (by kernel_rfl) rfl [6,7] (by kernel_rfl) (by decide) (by simp[Tryz.ntmps78]) ?_
  rw[Tryz.ntmps78]
  simp -implicitDefEqProofs only[↓reduceIte,go_sem,ah,Nat.reduceLT,Nat.reduceEqDiff]
  refine ae.ok (gi k _) ?_
  simp -implicitDefEqProofs only[↓reduceIte,go_sem,Nat.reduceLT,Nat.reduceEqDiff,Int.reduceLT,reduceCtorEq,hk]
  refine bW (fun j s H'=>H'=H++[.box 22 1 0 1 [.d (.v (.slice none 0 0))],.box 3 1 0 1 [iA k]]∧s 3= .ptr H.length 0 0 0∧s 9= .d (.v (.slice none 0 0))∧s 24=iA 0∧s 25=iA j) 0 (by omega) (ay.refl _ _) ?_ ?_ ?_
  ·refine⟨rfl,?_⟩
   simp -implicitDefEqProofs only[↓reduceIte,go_sem,Nat.reduceLT,Nat.reduceEqDiff]
  ·rintro j s H' hj
   omega
  ·rintro s H' ⟨rfl,t3,t9,t24,t25⟩
   simp -implicitDefEqProofs only[↓reduceIte,go_sem,ah,Nat.reduceLT,Nat.reduceEqDiff,Int.reduceLT,t3,t9,t24,t25]
   refine aw.ret ?_
   simp -implicitDefEqProofs only[↓reduceIte,go_sem,Nat.reduceLT,Nat.reduceEqDiff]
def gJ(o:List Nat)(c:Nat):List Nat:=if c∈o then o else o++[c]
def eE(l:List Nat):List Nat:=l.foldl gJ []
def jM(l:List Nat):List (Int×AV):=l.map fun(c:Nat)=>((c:Int),bA true)
theorem yg(c:Nat):∀(l:List Nat) (i:Nat),c∈l→∃j,iz (c:Int) (jM l) i=some (i+j,bA true)∧l[j]?=some c
 |[],_,h=>by simp at h
 |m::l,i,h=>by
  simp only[jM,List.map_cons,iz]
  by_cases e:c=m
  ·exact⟨0,by simp[e],by simp[e]⟩
  ·rw[if_neg (by omega)]
   obtain⟨j,h1,h2⟩:=yg c l (i+1) (by simpa[e]using h)
   exact⟨j+1,by rw[show iz (c:Int) (List.map (fun(c:Nat)=>((c:Int),bA true)) l) (i+1)=_ from h1,Nat.add_assoc,Nat.add_comm 1],by simpa using h2⟩
theorem uI(c:Nat):∀(l:List Nat) (i:Nat),c∉l→iz (c:Int) (jM l) i=none
 |[],_,_=>rfl
 |m::l,i,h=>by
  simp only[List.mem_cons,not_or]at h
  simp only[jM,List.map_cons,iz]
  rw[if_neg (by omega)]
  exact uI c l (i+1) h.2
theorem En(l:List Nat):(jM l).length=l.length:=by simp[jM]
theorem Bd(c:Nat)(l:List Nat):my (c:Int) (bA true) (jM l)=jM (gJ l c):=by
 unfold my gJ
 by_cases h:c∈l
 ·obtain⟨j,h1,h2⟩:=yg c l 0 h
  rw[if_pos h,h1,Nat.zero_add]
  simp only
  obtain⟨hj,he⟩:=List.getElem?_eq_some_iff.1 h2
  apply List.ext_getElem
  ·simp
  ·intro i i1 i2
   rw[List.getElem_set]
   split
   ·rename_i e
    subst e
    simp[jM,he]
   ·rfl
 ·rw[if_neg h,uI c l 0 h]
  simp[jM]
theorem so(l:List Nat)(k:Nat)(h:k<l.length):eE (l.take (k+1))=gJ (eE (l.take k)) l[k]:=by
 unfold eE
 rw[List.take_succ_eq_append_getElem h,List.foldl_append];rfl
theorem DJ(o:List Nat)(c x:Nat):x∈gJ o c↔x∈o∨x=c:=by
 unfold gJ
 split
 ·rename_i h
  constructor
  ·exact .inl
  ·rintro(h'|rfl)
   ·exact h'
   ·exact h
 ·simp
theorem vf(x:Nat):∀(l o:List Nat),x∈l.foldl gJ o↔x∈o∨x∈l
 |[],o=>by simp
 |c::l,o=>by
  rw[List.foldl_cons,vf x l,DJ,List.mem_cons,or_assoc]
theorem fM(l:List Nat)(x:Nat):x∈eE l↔x∈l:=by
 unfold eE
 rw[vf];simp
theorem qf:∀(l o:List Nat),o.Nodup→(l.foldl gJ o).Nodup
 |[],o,h=>h
 |c::l,o,h=>by
  rw[List.foldl_cons]
  refine qf l _ ?_
  unfold gJ
  split
  ·exact h
  ·rename_i hc
   rw[List.nodup_append]
   refine⟨h,by simp,?_⟩
   intro a ha b hb e
   simp at hb
   subst hb
   exact hc (e▸ha)
theorem qh(l:List Nat):(eE l).Nodup:=qf l [] List.nodup_nil
theorem Eg(o:List Nat)(c:Nat):(gJ o c).length≤o.length+1:=by unfold gJ;split<;>simp
theorem vj:∀(l o:List Nat),(l.foldl gJ o).length≤o.length+l.length
 |[],o=>by simp
 |c::l,o=>by
  rw[List.foldl_cons,List.length_cons]
  have h1:=vj l (gJ o c)
  have h2:=Eg o c
  omega
theorem u7(l:List Nat):(eE l).length≤l.length:=by have:=vj l [];simpa[eE]using this
def fV(codes:List Nat)(n:Nat):Bool:=(eE codes).all (fun c=>decide (c<n))&&decide ((eE codes).length=n)
theorem ma:∀{m:Nat} {seen:List Nat},seen.Nodup→(∀j∈seen,j<m)→seen.length≤m
 |0,seen,_,hm=>by
  cases seen with
  |nil=>simp
  |cons j r=>have:=hm j (by simp);omega
 |m+1,seen,h,hm=>by
  by_cases hi:m∈seen
  ·have h1:=ma (m:=m) (h.erase m) fun j hj=>by
    have h2:=(h.mem_erase_iff).1 hj
    have:=hm j h2.2
    omega
   rw[List.length_erase_of_mem hi]at h1
   omega
  ·have h1:=ma (m:=m) h fun j hj=>by
    have:=hm j hj
    have:j≠m:=fun e=>hi (e▸hj)
    omega
   omega
theorem DZ(codes:List Nat)(n:Nat)(H:aa)(hn:n≤1000000000000)(hl:codes.length≤1000000000000)(hc:∀c∈codes,c<18446744073709551616):
  ag Tryz.prog 157 [.d (.list false (us codes)),iA n] H (.ok (bA (fV codes n))) H:=by
 have hU:fV codes n=((eE codes).all (fun c=>decide (c<n))&&decide ((eE codes).length=n)):=rfl
 have hml:=u7 codes
 have hnu:=aK n (by omega)
 refine ag.aj (hint:=(fun _=>false)) Tryz.func157 (by kernel_rfl) rfl [4] (by kernel_rfl) (by decide) (by simp[Tryz.ntmps157]) ?_
 rw[Tryz.ntmps157]
 simp -implicitDefEqProofs only[↓reduceIte,go_sem,Nat.reduceLT,reduceCtorEq]
 refine bW (fun k s H'=>H'=H++[.mp .u64 (jM (eE (codes.take k)))]∧s 1=iA n∧s 5= .mp H.length∧s 10= .d (.list false (us codes))∧s 11=iA codes.length∧s 12=iA k) codes.length (by omega) (ay.refl _ _) ?_ ?_ ?_
 ·refine⟨rfl,?_⟩
  simp -implicitDefEqProofs only[↓reduceIte,go_sem,Nat.reduceLT,Nat.reduceEqDiff,cT]
 ·rintro k s H' hk hw ⟨rfl,t1,t5,t10,t11,t12⟩
  have hx:=iO codes k hk
  have hp:=Bd codes[k] (eE (codes.take k))
  rw[so codes k hk]
  generalize codes[k]=c at*
  generalize eE (codes.take k)=o at*
  simp -implicitDefEqProofs only[↓reduceIte,go_sem,Nat.reduceLT,Nat.reduceEqDiff,t5,t10,t11,t12,hk,hx,hp]
  refine c9.same ⟨rfl,?_⟩
  simp -implicitDefEqProofs only[↓reduceIte,go_sem,Nat.reduceLT,Nat.reduceEqDiff,t1,t5,t10,t11,hw]
 ·rintro s H' ⟨rfl,t1,t5,t10,t11,t12⟩
  rw[List.take_length]
  have hE:∀j e,(jM (eE codes))[j]?=some e→∃c:Nat,(eE codes)[j]?=some c∧e=((c:Int),bA true)∧c<18446744073709551616:=fun j e he=>by
   unfold jM at he
   rw[List.getElem?_map]at he
   rcases hc':(eE codes)[j]? with _|(c:Nat)
   ·rw[hc']at he;simp at he
   ·rw[hc']at he
    simp at he
    exact⟨c,hc',he.symm,hc c ((fM codes c).1 (List.mem_of_getElem? hc'))⟩
  generalize hT:eE codes=T at*
  have hel:=En T
  simp -implicitDefEqProofs only[↓reduceIte,go_sem,Nat.reduceLT,Nat.reduceEqDiff,t5,t11,t12]
  refine cl Tryz.prog _ _ _ (fun seen s H'=>H'=H++[.mp .u64 (jM T),.iter H.length T.length seen]∧seen.Nodup∧(∀j∈seen,j<T.length∧∀c,T[j]?=some c→c<n)∧s 1=iA n∧s 5= .mp H.length∧s 20= .ptr (H.length+1) 0 0 0) (fun seen=>T.length-seen.length) [] (ay.refl _ _) ?_ ?_
  ·refine⟨by rw[hel],List.nodup_nil,by simp,?_⟩
   simp -implicitDefEqProofs only[↓reduceIte,go_sem,Nat.reduceLT,Nat.reduceEqDiff,t1,t5]
  ·rintro seen s H' ⟨rfl,hnd,hse,t1,t5,t20⟩
   simp -implicitDefEqProofs only[↓reduceIte,go_sem,Nat.reduceLT,Nat.reduceEqDiff,t1,t5,t20,hel]
   refine⟨?_,?_⟩
   ·intro hall
    have hq:fV codes n=decide (T.length=n):=by
     rw[hU,List.all_eq_true.2 fun c hc=>?_,Bool.true_and]
     obtain⟨j,hj,rfl⟩:=List.mem_iff_getElem.1 hc
     simpa using(hse j (hall j hj)).2 _ (List.getElem?_eq_getElem hj)
    refine aw.ret ?_
    rw[hq,show decide (T.length=n)=decide ((T.length:Int)=(n:Int))from decide_eq_decide.2 (by omega)]
    simp -implicitDefEqProofs only[↓reduceIte,go_sem,Nat.reduceLT]
   ·intro j e hj hns
    obtain⟨c,h1,rfl,h3⟩:=hE j e hj
    have hjl:=(List.getElem?_eq_some_iff.1 h1).1
    by_cases hcn:n≤c
    ·have hq:fV codes n=false:=by
      rw[hU,Bool.and_eq_false_iff]
      exact .inl (List.all_eq_false.2 ⟨c,List.mem_of_getElem? h1,by simpa using hcn⟩)
     simp -implicitDefEqProofs only[↓reduceIte,go_sem,Nat.reduceLT,Nat.reduceEqDiff,List.getLast?_concat,hj,hel,t1,hnu,hcn]
     refine aw.ret ?_
     rw[hq]
     simp -implicitDefEqProofs only[↓reduceIte,go_sem,Nat.reduceLT]
    ·simp -implicitDefEqProofs only[↓reduceIte,go_sem,Nat.reduceLT,Nat.reduceEqDiff,List.getLast?_concat,hj,hel,t1,hnu,hcn]
     refine⟨_,_,seen++[j],ay.refl _ _,⟨rfl,?_,?_,?_⟩,?_⟩
     ·rw[List.nodup_append]
      refine⟨hnd,by simp,fun a ha b hb e=>?_⟩
      simp at hb
      subst hb
      exact hns (e▸ha)
     ·intro i hi
      rcases List.mem_append.1 hi with h|h
      ·exact hse i h
      ·simp at h
       subst h
       refine⟨hjl,fun d hd=>?_⟩
       rw[h1]at hd
       cases hd
       omega
     ·simp -implicitDefEqProofs only[↓reduceIte,go_sem,Nat.reduceEqDiff,t1,t5,t20]
     ·have hnd2:(seen++[j]).Nodup:=by
       rw[List.nodup_append]
       refine⟨hnd,by simp,fun a ha b hb e=>?_⟩
       simp at hb
       subst hb
       exact hns (e▸ha)
      have:=ma hnd2 (m:=T.length) fun i hi=>by
       rcases List.mem_append.1 hi with h|h
       ·exact(hse i h).1
       ·simp at h;subst h;exact hjl
      simp only[List.length_append,List.length_singleton]at this⊢
      omega
def ck(b:List Nat)(most:Nat):List Nat×List Nat×Int:=match dV 10 0 b with
 |(.ok n,r)=>if most<n then([],[],2)else if r.length<n then([],[],3)else(r.take n,r.drop n,0)
 |(.error e,_)=>([],[],e)
theorem jS:∀(k acc:Nat) (b:List Nat),∃j,(dV k acc b).2=b.drop j
 |0,_,b=>⟨0,rfl⟩
 |_+1,_,[]=>⟨0,rfl⟩
 |k+1,acc,c::b=>by
  unfold dV
  split
  ·exact⟨1,rfl⟩
  ·split
   ·exact⟨1,rfl⟩
   ·obtain⟨j,h⟩:=jS k (acc+c%128* 128^(9-k)) b
    exact⟨j+1,h⟩
theorem zq(b:List Nat)(most:Nat)(hmo:most≤1000000)(hl:b.length≤140737488351232)(hb:∀c∈b,c<256)(H:aa):
  ag Tryz.prog 74 [.d (.list false (aD b)),iA most] H (.ok (.bz [sA (lL (ck b most).1),.d (.list false (aD (ck b most).2.1)),iA (ck b most).2.2])) H:=by
 have hd:=qp (H++[.box 31 1 0 1 [iA 0],iU b]) (H.length+1) b (by omega) hb (by simp)
 have hset:∀x y z:aT,(H++[x,y]).set (H.length+1) z=H++[x,z]:=fun x y z=>by simp[]
 have hset0:∀x y z:aT,(H++[x,y]).set H.length z=H++[z,y]:=fun x y z=>by simp[]
 rw[hset]at hd
 have hg:ck b most=match dV 10 0 b with
  |(.ok n,r)=>if most<n then([],[],2)else if r.length<n then([],[],3)else(r.take n,r.drop n,0)
  |(.error e,_)=>([],[],e):=rfl
 have hnl:∀n,(dV 10 0 b).1= .ok n→n<18446744073709551616:=fun n h=>wE 10 0 b n (by decide) (Nat.le_refl _) h
 obtain⟨j,hsuf⟩:=jS 10 0 b
 rcases hn:dV 10 0 b with⟨_|n,r⟩
 ·rename_i e
  rw[hn]at hd hg
  rw[hg]
  refine ag.bE (cs:=[sA ⟨#[]⟩,.d (.v (.slice none 0 0)),iA e]) ?_ (.cons (.refl _) (.cons .nil (.cons (.refl _) .nil)))
  refine ag.oI (hint:=fun _=>false) Tryz.func74 (by kernel_rfl) rfl [.tmp 4,.tmp 5,.cell 6 31] (by kernel_rfl) rfl rfl rfl rfl (by simp[Tryz.ntmps74]) ?_
  rw[Tryz.ntmps74]
  simp -implicitDefEqProofs only[↓reduceIte,go_sem,au,Nat.reduceLT,Nat.reduceEqDiff,reduceCtorEq]
  refine ae.panic hd ?_
  simp -implicitDefEqProofs only[↓reduceIte,go_sem,Nat.reduceLT]
  refine⟨_,mA _ _ (iA 0) e (by simp),?_⟩
  rw[hset0]
  refine aZ.ret ?_
  simp -implicitDefEqProofs only[↓reduceIte,go_sem,ah,Nat.reduceAdd,Nat.reduceLT,Nat.reduceEqDiff,reduceCtorEq,aJ,a8]
 ·rw[hn]at hd hg hsuf
  have hnn:=hnl n (by rw[hn])
  simp only at hsuf
  have hrl:r.length≤140737488351232:=by rw[hsuf,List.length_drop];omega
  have wm:IntKind.u64.wrap (most:Int)=(most:Int):=aK _ (by omega)
  have wr:IntKind.u64.wrap (r.length:Int)=(r.length:Int):=aK _ (by omega)
  have c0:((most:Int)<0)=False:=eq_false (by omega)
  have hr:ck b most=if most<n then([],[],2)else if r.length<n then([],[],3)else(r.take n,r.drop n,0):=hg
  rw[hr]
  by_cases h1:most<n
  ·rw[if_pos h1]
   refine ag.bE (cs:=[sA ⟨#[]⟩,.d (.v (.slice none 0 0)),iA 2]) ?_ (.cons (.refl _) (.cons .nil (.cons (.refl _) .nil)))
   refine ag.oI (hint:=fun _=>false) Tryz.func74 (by kernel_rfl) rfl [.tmp 4,.tmp 5,.cell 6 31] (by kernel_rfl) rfl rfl rfl rfl (by simp[Tryz.ntmps74]) ?_
   rw[Tryz.ntmps74]
   simp -implicitDefEqProofs only[↓reduceIte,go_sem,au,Nat.reduceLT,Nat.reduceEqDiff,reduceCtorEq]
   refine ae.ok hd ?_
   simp -implicitDefEqProofs only[↓reduceIte,go_sem,Nat.reduceLT,Nat.reduceEqDiff,reduceCtorEq,iU,c0,wm,show((most:Int)<(n:Int))=True from eq_true (by omega)]
   refine⟨_,mA _ _ (iA 0) 2 (by simp),?_⟩
   rw[hset0]
   refine aZ.ret ?_
   simp -implicitDefEqProofs only[↓reduceIte,go_sem,ah,Nat.reduceAdd,Nat.reduceLT,Nat.reduceEqDiff,reduceCtorEq,aJ,a8]
  rw[if_neg h1]
  by_cases h2:r.length<n
  ·rw[if_pos h2]
   refine ag.bE (cs:=[sA ⟨#[]⟩,.d (.v (.slice none 0 0)),iA 3]) ?_ (.cons (.refl _) (.cons .nil (.cons (.refl _) .nil)))
   refine ag.oI (hint:=fun _=>false) Tryz.func74 (by kernel_rfl) rfl [.tmp 4,.tmp 5,.cell 6 31] (by kernel_rfl) rfl rfl rfl rfl (by simp[Tryz.ntmps74]) ?_
   rw[Tryz.ntmps74]
   simp -implicitDefEqProofs only[↓reduceIte,go_sem,au,Nat.reduceLT,Nat.reduceEqDiff,reduceCtorEq]
   refine ae.ok hd ?_
   simp -implicitDefEqProofs only[↓reduceIte,go_sem,ah,Nat.reduceLT,Nat.reduceEqDiff,reduceCtorEq,iU,c0,wm,wr,ai,show((most:Int)<(n:Int))=False from eq_false (by omega),show((r.length:Int)<(n:Int))=True from eq_true (by omega)]
   refine⟨_,mA _ _ (iA 0) 3 (by simp),?_⟩
   rw[hset0]
   refine aZ.ret ?_
   simp -implicitDefEqProofs only[↓reduceIte,go_sem,ah,Nat.reduceAdd,Nat.reduceLT,Nat.reduceEqDiff,reduceCtorEq,aJ,a8]
  rw[if_neg h2]
  have wn:IntKind.i64.wrap (n:Int)=(n:Int):=wrap64_in _ (by omega) (by omega)
  have hnr:n≤r.length:=by omega
  have hrt:(aD r).take n=aD (r.take n):=nW r n
  have hrt2:(aD r).take r.length=aD r:=List.take_of_length_le (by rw[ai];exact Nat.le_refl _)
  have hdl:(r.drop n).length=r.length-n:=List.length_drop
  refine ag.oI (hint:=fun _=>false) Tryz.func74 (by kernel_rfl) rfl [.tmp 4,.tmp 5,.cell 6 31] (by kernel_rfl) rfl rfl rfl rfl (by simp[Tryz.ntmps74]) ?_
  rw[Tryz.ntmps74]
  simp -implicitDefEqProofs only[↓reduceIte,go_sem,au,Nat.reduceLT,Nat.reduceEqDiff,reduceCtorEq]
  refine ae.ok hd ?_
  simp -implicitDefEqProofs only[↓reduceIte,go_sem,ah,Nat.reduceLT,Nat.reduceEqDiff,reduceCtorEq,iU,c0,wm,wr,ai,show((most:Int)<(n:Int))=False from eq_false (by omega),show((r.length:Int)<(n:Int))=False from eq_false (by omega)]
  refine D0 [false,false,false,false,false,false,false,false,true] K.mixed (by kernel_rfl) (by kernel_rfl) (by kernel_rfl) ?_
  simp -implicitDefEqProofs only[↓reduceIte,go_sem,ah,au,Nat.reduceAdd,Nat.reduceLT,Nat.reduceEqDiff,Int.reduceLE,Int.reduceToNat,ai,aL,hnr,hrt,dq,cS,hrt2]
  have hext:∀x y z:aT,Ext (H++[x,y]) (H++[x,y,z]):=fun x y z=>by have:=Ext.app (H++[x,y]) [z];rwa[List.append_assoc]at this
  refine⟨by omega,by omega,hext _ _ _,?_⟩
  refine⟨_,u9 _ _,?_⟩
  refine aZ.ret ?_
  simp -implicitDefEqProofs only[↓reduceIte,go_sem,ah,Nat.reduceAdd,Nat.reduceLT,Nat.reduceEqDiff,reduceCtorEq,aJ,a8,iv,List.take_of_length_le (Nat.le_of_eq (ai (r.drop n)))]
def ea(k:Nat):Nat:=if 9223372036854775808≤k then dP (k-9223372036854775808)else dP (18446744073709551615-k)
theorem F1(k:Nat)(hk:k<18446744073709551616)(h:9223372036854775808≤k):IntKind.u64.wrap (n6 .u64 (k:Int) 9223372036854775808)=((k-9223372036854775808:Nat):Int):=by
 have h2:(~~~BitVec.ofInt 64 9223372036854775808)=BitVec.ofNat 64 (2^63-1):=by decide
 have h3:n6 .u64 (k:Int) 9223372036854775808=((k-9223372036854775808:Nat):Int):=by
  unfold n6
  show(((BitVec.ofInt 64 (k:Int)&&& ~~~BitVec.ofInt 64 9223372036854775808).toNat:Nat):Int)=_
  rw[h2,BitVec.toNat_and,BitVec.ofInt_natCast,BitVec.toNat_ofNat,BitVec.toNat_ofNat,Nat.mod_eq_of_lt hk,Nat.mod_eq_of_lt (by decide),Nat.and_two_pow_sub_one_eq_mod]
  omega
 rw[h3]
 exact aK _ (by omega)
theorem rX(k:Nat)(hk:k<18446744073709551616)(H:aa):ag Tryz.prog 114 [du k] H (.ok (du (ea k))) H:=by
 unfold ea
 refine ag.aj (hint:=(fun _=>false)) Tryz.func114 (by kernel_rfl) rfl [2] (by kernel_rfl) (by decide) (by simp[Tryz.ntmps114]) ?_
 rw[Tryz.ntmps114]
 by_cases h:9223372036854775808≤k
 ·rw[if_pos h]
  simp -implicitDefEqProofs only[↓reduceIte,go_sem,Nat.reduceLT,reduceCtorEq,show((9223372036854775808:Int)≤(k:Int))=True from eq_true (by omega),F1 k hk h]
  refine ae.ok (jT _ (by omega) _) ?_
  simp -implicitDefEqProofs only[↓reduceIte,go_sem,Nat.reduceLT]
  refine aw.aI ?_
  simp -implicitDefEqProofs only[↓reduceIte,go_sem,Nat.reduceLT]
 ·rw[if_neg h]
  simp -implicitDefEqProofs only[↓reduceIte,go_sem,Nat.reduceLT,reduceCtorEq,show((9223372036854775808:Int)≤(k:Int))=False from eq_false (by omega),Mf k hk]
  refine ae.ok (jT _ (by omega) _) ?_
  simp -implicitDefEqProofs only[↓reduceIte,go_sem,Nat.reduceLT]
  refine aw.aI ?_
  simp -implicitDefEqProofs only[↓reduceIte,go_sem,Nat.reduceLT]
theorem pP{k:Nat}(hk:k<18446744073709551616):ea k<18446744073709551616:=by
 unfold ea
 split<;>exact kq _ (by omega)
def gR(l:List Nat):Nat:=l.foldl (fun a c=>a* 256+c) 0
theorem iG(l:List Nat)(c:Nat):gR (l++[c])=gR l* 256+c:=by simp[gR]
theorem p6:∀(k:Nat) (l:List Nat),l.length=k→(∀c∈l,c<256)→gR l<256^k:=by
 intro k
 induction k with
 |zero=>intro l h _;rw[List.length_eq_zero_iff.1 h];exact Nat.one_pos
 |succ k ih=>
  intro l h hc
  have hne:l≠[]:=fun e=>by rw[e]at h;simp at h
  rw[←List.dropLast_concat_getLast hne,iG,Nat.pow_succ]
  have h1:=ih l.dropLast (by simp[h]) fun c hm=>hc c (List.dropLast_subset l hm)
  have h2:=hc _ (List.getLast_mem hne)
  omega
theorem JL(m c:Nat)(hc:c<256)(hm:m* 256+c<18446744073709551616):IntKind.u64.wrap (JI .u64 (IntKind.u64.wrap (rS .u64 (m:Int) 8)) (c:Int))=((m* 256+c:Nat):Int):=by
 have e8:(2:Nat)^8=256:=rfl
 have hm2:m* 256<18446744073709551616:=Nat.lt_of_le_of_lt (Nat.le_add_right _ c) hm
 have hc2:c<18446744073709551616:=Nat.lt_of_le_of_lt (Nat.le_add_left c _) hm
 have h1:=J7 m 8 (by decide) hm2
 have p64:(2:Nat)^IntKind.u64.bits=18446744073709551616:=by decide
 have h4:m* 256|||c=m* 256+c:=by
  have:=Nat.two_pow_add_eq_or_of_lt (i:=8) (b:=c) (by rw[e8];exact hc) m
  rw[e8,Nat.mul_comm]at this
  exact this.symm
 rw[e8]at h1
 rw[show((8:Nat):Int)=8 from rfl]at h1
 rw[h1,ov .u64 (m* 256) c (Nat.lt_of_lt_of_eq hm2 p64.symm) (Nat.lt_of_lt_of_eq hc2 p64.symm),h4]
 exact aK _ hm
def zV:aq:=⟨0,0,cP⟩
def CR(n:Nat):Int:=IntKind.i64.wrap (n:Int)
def hZ(b:List Nat):aq×List Nat×Int:=
 if b.length<8 then(zV,[],3)
 else if dR (ea (gR (b.take 8)))=gR (b.take 8)then(⟨2,CR (ea (gR (b.take 8))),cP⟩,b.drop 8,0)
 else(zV,[],4)
theorem BW(b:List Nat)(hl:b.length≤140737488351232)(hb:∀c∈b,c<256)(H:aa):
  ag Tryz.prog 73 [.d (.list false (aD b))] H (.ok (.bz [(hZ b).1.av,.d (.list false (aD (hZ b).2.1)),iA (hZ b).2.2])) H:=by
 have hF:hZ b=if b.length<8 then(zV,[],3)else if dR (ea (gR (b.take 8)))=gR (b.take 8)then(⟨2,CR (ea (gR (b.take 8))),cP⟩,b.drop 8,0)else(zV,[],4):=rfl
 by_cases h8:b.length<8
 ·rw[hF,if_pos h8]
  refine ag.bE (cs:=[zV.av,.d (.v (.slice none 0 0)),iA 3]) ?_ (.cons (.refl _) (.cons .nil (.cons (.refl _) .nil)))
  refine ag.bj (hint:=fun _=>false) Tryz.func73 (by kernel_rfl) rfl [.cell 2 25,.tmp 3,.tmp 4] (by kernel_rfl) (by simp[Tryz.ntmps73]) ?_
  rw[Tryz.ntmps73]
  simp -implicitDefEqProofs only[↓reduceIte,go_sem,au,Nat.reduceAdd,Nat.reduceLT,Nat.reduceEqDiff,reduceCtorEq,ai,show((b.length:Int)<8)=True from eq_true (by omega)]
  refine aZ.ret ?_
  simp -implicitDefEqProofs only[↓reduceIte,go_sem,ah,Nat.reduceAdd,Nat.reduceLT,Nat.reduceLeDiff,Nat.reduceEqDiff,aJ,a8,zV,cP]
 rw[if_neg h8]at hF
 have h8l:(b.take 8).length=8:=by rw[List.length_take];omega
 have hkl:=p6 8 (b.take 8) h8l fun c hc=>hb c (List.mem_of_mem_take hc)
 have hkl':gR (b.take 8)<18446744073709551616:=hkl
 have hub:=pP hkl'
 have hfold:∀k,k<8→∃c,(b.take 8)[k]?=some c∧c<256∧gR ((b.take 8).take (k+1))=gR ((b.take 8).take k)* 256+c∧gR ((b.take 8).take k)* 256+c<18446744073709551616:=fun k hk=>by
  have hk':k<(b.take 8).length:=by omega
  refine⟨(b.take 8)[k],List.getElem?_eq_getElem hk',hb _ (List.mem_of_mem_take (List.getElem_mem hk')),?_,?_⟩
  ·rw[List.take_succ_eq_append_getElem hk',iG]
  ·rw[←iG,←List.take_succ_eq_append_getElem hk']
   have:=p6 (k+1) ((b.take 8).take (k+1)) (by rw[List.length_take];omega) fun c hc=>hb c (List.mem_of_mem_take (List.mem_of_mem_take hc))
   have h2:256^(k+1)≤256^8:=Nat.pow_le_pow_right (by decide) (by omega)
   omega
 have ht8:(b.take 8).take 8=b.take 8:=List.take_of_length_le (by omega)
 have e8:(aD b).take 8=aD (b.take 8):=nW b 8
 have hg:∀(k c:Nat),(b.take 8)[k]?=some c→(aD (b.take 8))[k]?=some [D.v (.int .u8 (c:Int))]:=fun k c h=>by unfold aD;rw[List.getElem?_map,h];rfl
 have hbt:=ai (b.take 8)
 rw[h8l]at hbt
 have hd8:(aD b).drop 8=aD (b.drop 8):=cS b 8
 have hdl:(b.drop 8).length=b.length-8:=List.length_drop
 have hbtl:(aD b).take b.length=aD b:=List.take_of_length_le (by rw[ai];exact Nat.le_refl _)
 rw[hF]
 generalize b.take 8=B at*
 by_cases hk:dR (ea (gR B))=gR B
 ·rw[if_pos hk]
  refine ag.bj (hint:=fun _=>false) Tryz.func73 (by kernel_rfl) rfl [.cell 2 25,.tmp 3,.tmp 4] (by kernel_rfl) (by simp[Tryz.ntmps73]) ?_
  rw[Tryz.ntmps73]
  simp -implicitDefEqProofs only[↓reduceIte,go_sem,Nat.reduceLT,Int.reduceLE,Int.reduceToNat,reduceCtorEq,ai,show((b.length:Int)<8)=False from eq_false (by omega),aL,e8,hbt,show((8:Int)≤(b.length:Int))=True from eq_true (by omega)]
  refine bW (fun k s H'=>H'=H++[.box 25 3 0 1 [iA 0,iA 0,sA ⟨#[]⟩]]∧s 0= .d (.list false (aD b))∧s 2= .ptr H.length 0 0 0∧s 5=du (gR (B.take k))∧s 14= .d (.list false (aD B))∧s 15=iA 8∧s 16=iA k) 8 (by omega) (ay.refl _ _) ?_ ?_ ?_
  ·refine⟨rfl,?_⟩
   simp -implicitDefEqProofs only[↓reduceIte,go_sem,Nat.reduceLT,Nat.reduceEqDiff,reduceCtorEq]
   rfl
  ·rintro k s H' hk8 hw ⟨rfl,t0,t2,t5,t14,t15,t16⟩
   have hk8':((k:Int)<8)=True:=eq_true (by omega)
   obtain⟨c,g1,g2,g3,g4⟩:=hfold k hk8
   have hx:=hg k c g1
   have hso:=JL (gR (B.take k)) c g2 g4
   have wc:IntKind.u64.wrap (c:Int)=(c:Int):=aK _ (by omega)
   rw[g3]
   generalize gR (B.take k)=m at*
   generalize m* 256+c=z at*
   simp -implicitDefEqProofs only[↓reduceIte,go_sem,Nat.reduceLT,Nat.reduceEqDiff,Int.reduceLE,t5,t14,t15,t16,hk8',hx,wc,hso]
   refine c9.same ⟨rfl,?_⟩
   simp -implicitDefEqProofs only[↓reduceIte,go_sem,Nat.reduceLT,Nat.reduceEqDiff,reduceCtorEq,t0,t2,t14,t15,hw]
  ·rintro s H' ⟨rfl,t0,t2,t5,t14,t15,t16⟩
   rw[ht8]at t5
   simp -implicitDefEqProofs only[↓reduceIte,go_sem,Nat.reduceLT,Nat.reduceEqDiff,Int.reduceLT,t5,t15,t16]
   refine ae.ok (rX _ hkl' _) ?_
   simp -implicitDefEqProofs only[↓reduceIte,go_sem,Nat.reduceLT]
   refine ae.ok (kb _ hub _) ?_
   simp -implicitDefEqProofs only[↓reduceIte,go_sem,au,Nat.reduceAdd,Nat.reduceLT,Nat.reduceLeDiff,Nat.reduceEqDiff,Int.reduceLE,Int.reduceToNat,reduceCtorEq,t0,t2,t5,eq_true (congrArg (fun n:Nat=>(n:Int)) hk),ai,aL,hbtl,hd8,show((8:Int)≤(b.length:Int))=True from eq_true (by omega)]
   refine⟨by omega,by omega,?_⟩
   refine aZ.ret ?_
   simp -implicitDefEqProofs only[↓reduceIte,go_sem,ah,Nat.reduceAdd,Nat.reduceLT,Nat.reduceLeDiff,Nat.reduceEqDiff,aJ,a8,t2,CR,cP,List.take_of_length_le (Nat.le_of_eq (ai (b.drop 8)))]
 ·rw[if_neg hk]
  refine ag.bE (cs:=[zV.av,.d (.v (.slice none 0 0)),iA 4]) ?_ (.cons (.refl _) (.cons .nil (.cons (.refl _) .nil)))
  refine ag.bj (hint:=fun _=>false) Tryz.func73 (by kernel_rfl) rfl [.cell 2 25,.tmp 3,.tmp 4] (by kernel_rfl) (by simp[Tryz.ntmps73]) ?_
  rw[Tryz.ntmps73]
  simp -implicitDefEqProofs only[↓reduceIte,go_sem,Nat.reduceLT,Int.reduceLE,Int.reduceToNat,reduceCtorEq,ai,show((b.length:Int)<8)=False from eq_false (by omega),aL,e8,hbt,show((8:Int)≤(b.length:Int))=True from eq_true (by omega)]
  refine bW (fun k s H'=>H'=H++[.box 25 3 0 1 [iA 0,iA 0,sA ⟨#[]⟩]]∧s 0= .d (.list false (aD b))∧s 2= .ptr H.length 0 0 0∧s 5=du (gR (B.take k))∧s 14= .d (.list false (aD B))∧s 15=iA 8∧s 16=iA k) 8 (by omega) (ay.refl _ _) ?_ ?_ ?_
  ·refine⟨rfl,?_⟩
   simp -implicitDefEqProofs only[↓reduceIte,go_sem,Nat.reduceLT,Nat.reduceEqDiff,reduceCtorEq]
   rfl
  ·rintro k s H' hk8 hw ⟨rfl,t0,t2,t5,t14,t15,t16⟩
   have hk8':((k:Int)<8)=True:=eq_true (by omega)
   obtain⟨c,g1,g2,g3,g4⟩:=hfold k hk8
   have hx:=hg k c g1
   have hso:=JL (gR (B.take k)) c g2 g4
   have wc:IntKind.u64.wrap (c:Int)=(c:Int):=aK _ (by omega)
   rw[g3]
   generalize gR (B.take k)=m at*
   generalize m* 256+c=z at*
   simp -implicitDefEqProofs only[↓reduceIte,go_sem,Nat.reduceLT,Nat.reduceEqDiff,Int.reduceLE,t5,t14,t15,t16,hk8',hx,wc,hso]
   refine c9.same ⟨rfl,?_⟩
   simp -implicitDefEqProofs only[↓reduceIte,go_sem,Nat.reduceLT,Nat.reduceEqDiff,reduceCtorEq,t0,t2,t14,t15,hw]
  ·rintro s H' ⟨rfl,t0,t2,t5,t14,t15,t16⟩
   rw[ht8]at t5
   simp -implicitDefEqProofs only[↓reduceIte,go_sem,Nat.reduceLT,Nat.reduceEqDiff,Int.reduceLT,t5,t15,t16]
   refine ae.ok (rX _ hkl' _) ?_
   simp -implicitDefEqProofs only[↓reduceIte,go_sem,Nat.reduceLT]
   refine ae.ok (kb _ hub _) ?_
   simp -implicitDefEqProofs only[↓reduceIte,go_sem,au,Nat.reduceAdd,Nat.reduceLT,Nat.reduceEqDiff,t2,t5,show(((dR (ea (gR B)):Nat):Int)=((gR B:Nat):Int))=False from eq_false (by omega)]
   refine aZ.ret ?_
   simp -implicitDefEqProofs only[↓reduceIte,go_sem,ah,Nat.reduceAdd,Nat.reduceLT,Nat.reduceLeDiff,Nat.reduceEqDiff,aJ,a8,t2,zV,cP]
def ej(b:List Nat)(k:Int):aq×List Nat×Int:=
 if k=0 then(zV,b,0)
 else if k=1 then(if(aQ b).2.2=0 then(cG (dA (aQ b).1),b.drop (aQ b).2.1,0)else(zV,[],(aQ b).2.2))
 else if k=2 then hZ b
 else if k=3 then(if(ck b 1024).2.2=0 then(⟨3,0,lL (ck b 1024).1⟩,(ck b 1024).2.1,0)else(zV,[],(ck b 1024).2.2))
 else(zV,[],1)
theorem gn(b:List Nat)(k:Int)(hl:b.length≤140737488351232)(hb:∀c∈b,c<256)(H:aa):
  ag Tryz.prog 45 [.d (.list false (aD b)),iA k] H (.ok (.bz [(ej b k).1.av,.d (.list false (aD (ej b k).2.1)),iA (ej b k).2.2])) H:=by
 have hO:ej b k=if k=0 then(zV,b,0)else if k=1 then(if(aQ b).2.2=0 then(cG (dA (aQ b).1),b.drop (aQ b).2.1,0)else(zV,[],(aQ b).2.2))else if k=2 then hZ b else if k=3 then(if(ck b 1024).2.2=0 then(⟨3,0,lL (ck b 1024).1⟩,(ck b 1024).2.1,0)else(zV,[],(ck b 1024).2.2))else(zV,[],1):=rfl
 by_cases h0:k=0
 ·rw[hO,if_pos h0]
  subst h0
  refine ag.bj (hint:=fun _=>false) Tryz.func45 (by kernel_rfl) rfl [.cell 4 25,.tmp 5,.tmp 6] (by kernel_rfl) (by simp[Tryz.ntmps45]) ?_
  rw[Tryz.ntmps45]
  simp -implicitDefEqProofs only[↓reduceIte,go_sem,au,Nat.reduceAdd,Nat.reduceLT,Nat.reduceEqDiff,reduceCtorEq,aL,ai]
  refine⟨by omega,by omega,aZ.ret ?_⟩
  simp -implicitDefEqProofs only[↓reduceIte,go_sem,ah,Nat.reduceAdd,Nat.reduceLT,Nat.reduceLeDiff,Nat.reduceEqDiff,aJ,a8,zV,cP,List.take_of_length_le (Nat.le_of_eq (ai b))]
 rw[if_neg h0]at hO
 by_cases h1:k=1
 ·rw[if_pos h1]at hO
  subst h1
  have hgl:=eO b
  have hglt:=fh b
  have hgd:=fun H=>oQ b (by omega) hb H
  generalize aQ b=g at*
  obtain⟨n,j,e⟩:=g
  simp only at hgl hglt hO hgd
  by_cases he:e=0
  ·rw[if_pos he]at hO
   rw[hO]
   subst he
   refine ag.bj (hint:=fun _=>false) Tryz.func45 (by kernel_rfl) rfl [.cell 4 25,.tmp 5,.tmp 6] (by kernel_rfl) (by simp[Tryz.ntmps45]) ?_
   rw[Tryz.ntmps45]
   have hbt:(aD b).take b.length=aD b:=List.take_of_length_le (by rw[ai];exact Nat.le_refl _)
   have hdl:(b.drop j).length=b.length-j:=List.length_drop
   simp -implicitDefEqProofs only[↓reduceIte,go_sem,Nat.reduceLT,Nat.reduceEqDiff,Int.reduceEq,reduceCtorEq]
   refine ae.ok (hgd _) ?_
   simp -implicitDefEqProofs only[↓reduceIte,go_sem,Nat.reduceLT,Nat.reduceEqDiff]
   refine kx [false,false,false,false,false,false,false,true] 7 K.mixed (by kernel_rfl) (by kernel_rfl) (by kernel_rfl) ?_
   simp -implicitDefEqProofs only[↓reduceIte,go_sem,Nat.reduceLT,Nat.reduceEqDiff]
   refine ae.ok (ry n hglt _) ?_
   simp -implicitDefEqProofs only[↓reduceIte,go_sem,au,Nat.reduceAdd,Nat.reduceLT,Nat.reduceLeDiff,Nat.reduceEqDiff,reduceCtorEq,aL,ai,hbt,cS,hgl,show((0:Int)≤(j:Int))=True from eq_true (by omega)]
   refine⟨by omega,by omega,aZ.ret ?_⟩
   simp -implicitDefEqProofs only[↓reduceIte,go_sem,ah,Nat.reduceAdd,Nat.reduceLT,Nat.reduceLeDiff,Nat.reduceEqDiff,aJ,a8,cG,cP,List.take_of_length_le (Nat.le_of_eq (ai (b.drop j)))]
  ·rw[if_neg he]at hO
   rw[hO]
   refine ag.bE (cs:=[zV.av,.d (.v (.slice none 0 0)),iA e]) ?_ (.cons (.refl _) (.cons .nil (.cons (.refl _) .nil)))
   refine ag.bj (hint:=fun _=>false) Tryz.func45 (by kernel_rfl) rfl [.cell 4 25,.tmp 5,.tmp 6] (by kernel_rfl) (by simp[Tryz.ntmps45]) ?_
   rw[Tryz.ntmps45]
   simp -implicitDefEqProofs only[↓reduceIte,go_sem,Nat.reduceLT,Nat.reduceEqDiff,Int.reduceEq,reduceCtorEq]
   refine ae.ok (hgd _) ?_
   simp -implicitDefEqProofs only[↓reduceIte,go_sem,au,Nat.reduceAdd,Nat.reduceLT,Nat.reduceEqDiff,he]
   refine aZ.ret ?_
   simp -implicitDefEqProofs only[↓reduceIte,go_sem,ah,Nat.reduceAdd,Nat.reduceLT,Nat.reduceLeDiff,Nat.reduceEqDiff,aJ,a8,zV,cP]
 rw[if_neg h1]at hO
 by_cases h2:k=2
 ·rw[if_pos h2]at hO
  subst h2
  rw[hO]
  have hf:=fun H=>BW b hl hb H
  generalize hZ b=t at*
  obtain⟨v,r,e⟩:=t
  refine ag.bj (hint:=fun _=>false) Tryz.func45 (by kernel_rfl) rfl [.cell 4 25,.tmp 5,.tmp 6] (by kernel_rfl) (by simp[Tryz.ntmps45]) ?_
  rw[Tryz.ntmps45]
  simp -implicitDefEqProofs only[↓reduceIte,go_sem,Nat.reduceLT,Nat.reduceEqDiff,Int.reduceEq,reduceCtorEq]
  refine ae.ok (hf _) ?_
  simp -implicitDefEqProofs only[↓reduceIte,go_sem,au,Nat.reduceAdd,Nat.reduceLT,Nat.reduceEqDiff]
  refine aZ.ret ?_
  simp -implicitDefEqProofs only[↓reduceIte,go_sem,ah,Nat.reduceAdd,Nat.reduceLT,Nat.reduceLeDiff,Nat.reduceEqDiff,aJ,a8]
 rw[if_neg h2]at hO
 by_cases h3:k=3
 ·rw[if_pos h3]at hO
  subst h3
  have hf:=fun H=>zq b 1024 (by decide) hl hb H
  generalize ck b 1024=t at*
  obtain⟨v,r,e⟩:=t
  simp only at hO hf
  by_cases he:e=0
  ·rw[if_pos he]at hO
   rw[hO]
   subst he
   refine ag.bj (hint:=fun _=>false) Tryz.func45 (by kernel_rfl) rfl [.cell 4 25,.tmp 5,.tmp 6] (by kernel_rfl) (by simp[Tryz.ntmps45]) ?_
   rw[Tryz.ntmps45]
   simp -implicitDefEqProofs only[↓reduceIte,go_sem,Nat.reduceLT,Nat.reduceEqDiff,Int.reduceEq,reduceCtorEq]
   refine ae.ok (hf _) ?_
   simp -implicitDefEqProofs only[↓reduceIte,go_sem,au,Nat.reduceAdd,Nat.reduceLT,Nat.reduceLeDiff,Nat.reduceEqDiff]
   refine aZ.ret ?_
   simp -implicitDefEqProofs only[↓reduceIte,go_sem,ah,Nat.reduceAdd,Nat.reduceLT,Nat.reduceLeDiff,Nat.reduceEqDiff,aJ,a8]
  ·rw[if_neg he]at hO
   rw[hO]
   refine ag.bE (cs:=[zV.av,.d (.v (.slice none 0 0)),iA e]) ?_ (.cons (.refl _) (.cons .nil (.cons (.refl _) .nil)))
   refine ag.bj (hint:=fun _=>false) Tryz.func45 (by kernel_rfl) rfl [.cell 4 25,.tmp 5,.tmp 6] (by kernel_rfl) (by simp[Tryz.ntmps45]) ?_
   rw[Tryz.ntmps45]
   simp -implicitDefEqProofs only[↓reduceIte,go_sem,Nat.reduceLT,Nat.reduceEqDiff,Int.reduceEq,reduceCtorEq]
   refine ae.ok (hf _) ?_
   simp -implicitDefEqProofs only[↓reduceIte,go_sem,au,Nat.reduceAdd,Nat.reduceLT,Nat.reduceEqDiff,he]
   refine aZ.ret ?_
   simp -implicitDefEqProofs only[↓reduceIte,go_sem,ah,Nat.reduceAdd,Nat.reduceLT,Nat.reduceLeDiff,Nat.reduceEqDiff,aJ,a8,zV,cP]
 rw[if_neg h3]at hO
 rw[hO]
 refine ag.bE (cs:=[zV.av,.d (.v (.slice none 0 0)),iA 1]) ?_ (.cons (.refl _) (.cons .nil (.cons (.refl _) .nil)))
 refine ag.bj (hint:=fun _=>false) Tryz.func45 (by kernel_rfl) rfl [.cell 4 25,.tmp 5,.tmp 6] (by kernel_rfl) (by simp[Tryz.ntmps45]) ?_
 rw[Tryz.ntmps45]
 simp -implicitDefEqProofs only[↓reduceIte,go_sem,au,Nat.reduceAdd,Nat.reduceLT,Nat.reduceEqDiff,h0,h1,h2,h3]
 refine aZ.ret ?_
 simp -implicitDefEqProofs only[↓reduceIte,go_sem,ah,Nat.reduceAdd,Nat.reduceLT,Nat.reduceLeDiff,Nat.reduceEqDiff,aJ,a8,zV,cP]
def aX(k:Int):Nat→List Nat→List aq×List Nat×Int
 |0,b=>([],b,0)
 |n+1,b=>if(ej b k).2.2=0 then(if(aX k n (ej b k).2.1).2.2=0 then((ej b k).1::(aX k n (ej b k).2.1).1,(aX k n (ej b k).2.1).2.1,0)else([],[],(aX k n (ej b k).2.1).2.2))else([],[],(ej b k).2.2)
def jt(L:List aq)(q:List aq×List Nat×Int):List aq×List Nat×Int:=if q.2.2=0 then(L++q.1,q.2.1,0)else([],[],q.2.2)
theorem mM(k:Int)(n:Nat)(b:List Nat):jt [] (aX k n b)=aX k n b:=by
 cases n with
 |zero=>simp[jt,aX]
 |succ n=>
  unfold jt aX
  split
  ·split
   ·rfl
   ·rename_i h;simp[]
  ·rename_i h;simp[]
theorem nF{k:Int}{n:Nat}{b r:List Nat}{v:aq}(L:List aq)(h:ej b k=(v,r,0)):jt L (aX k (n+1) b)=jt (L++[v]) (aX k n r):=by
 unfold jt
 rw[show aX k (n+1) b=if(ej b k).2.2=0 then(if(aX k n (ej b k).2.1).2.2=0 then((ej b k).1::(aX k n (ej b k).2.1).1,(aX k n (ej b k).2.1).2.1,0)else([],[],(aX k n (ej b k).2.1).2.2))else([],[],(ej b k).2.2)from rfl,h]
 simp only[if_true]
 by_cases h2:(aX k n r).2.2=0
 ·simp[h2]
 ·simp[h2]
theorem nP{k:Int}{n:Nat}{b r:List Nat}{v:aq}{e:Int}(L:List aq)(h:ej b k=(v,r,e))(he:e≠0):jt L (aX k (n+1) b)=([],[],e):=by
 unfold jt
 rw[show aX k (n+1) b=if(ej b k).2.2=0 then(if(aX k n (ej b k).2.1).2.2=0 then((ej b k).1::(aX k n (ej b k).2.1).1,(aX k n (ej b k).2.1).2.1,0)else([],[],(aX k n (ej b k).2.1).2.2))else([],[],(ej b k).2.2)from rfl,h]
 simp[he]
theorem eA(b:List Nat)(k:Int):∃j,(ej b k).2.1=b.drop j:=by
 have nil:∃j,([]:List Nat)=b.drop j:=⟨b.length,by simp⟩
 unfold ej
 split
 ·exact⟨0,rfl⟩
 split
 ·split
  ·exact⟨_,rfl⟩
  ·exact nil
 split
 ·unfold hZ
  split
  ·exact nil
  ·split
   ·exact⟨8,rfl⟩
   ·exact nil
 split
 ·split
  ·unfold ck
   obtain⟨j,h⟩:=jS 10 0 b
   rcases hn:dV 10 0 b with⟨_|n,r⟩
   ·exact nil
   ·rw[hn]at h
    simp only at h⊢
    split
    ·exact nil
    ·split
     ·exact nil
     ·exact⟨j+n,by rw[h,List.drop_drop]⟩
  ·exact nil
 ·exact nil
def iE(W:List aq):Prop:=∀i x y,W[i]?=some x→W[i+1]?=some y→aM x y<0
noncomputable instance iE.dec (W:List aq):Decidable (iE W):=Classical.propDecidable _
noncomputable def fQ(k:Int)(n:Nat)(b:List Nat):List aq×List Nat×Int:=if(aX k n b).2.2=0 then(if iE (aX k n b).1 then aX k n b else([],[],4))else([],[],(aX k n b).2.2)
theorem FW{k:Int}{n:Nat}{b:List Nat}(h:(aX k n b).2.2≠0):aX k n b=([],[],(aX k n b).2.2):=by
 have:=mM k n b
 unfold jt at this
 rw[if_neg h]at this
 exact this.symm
theorem zO(b:List Nat)(m:Nat)(k:Int)(hm:m≤4096)(hl:b.length≤140737488351232)(hb:∀c∈b,c<256)(H:aa):
  ag Tryz.prog 156 [.d (.list false (aD b)),iA m,iA k] H (.ok (if(fQ k m b).2.2=0 then .bz [.d (.list false ((fQ k m b).1.map aq.enc)),.d (.list false (aD (fQ k m b).2.1)),iA 0]else .bz [.d (.v (.slice none 0 0)),.d (.v (.slice none 0 0)),iA (fQ k m b).2.2])) H:=by
 have hR:fQ k m b=if(aX k m b).2.2=0 then(if iE (aX k m b).1 then aX k m b else([],[],4))else([],[],(aX k m b).2.2):=by unfold fQ;rfl
 have hj0:=mM k m b
 refine ag.aj (hint:=(fun _=>false)) Tryz.func156 (by kernel_rfl) rfl [6,7,8] (by kernel_rfl) (by decide) (by simp[Tryz.ntmps156]) ?_
 rw[Tryz.ntmps156]
 simp -implicitDefEqProofs only[↓reduceIte,go_sem,Nat.reduceEqDiff]
 refine bW (fun j s H'=>∃L c,H'=H++[.arr 25 3 j (L.map aq.enc)]∧L.length=j∧c.length≤b.length∧(∀x∈c,x<256)∧jt L (aX k (m-j) c)=aX k m b∧s 0= .d (.list false (aD c))∧s 2=iA k∧s 9= .sl H.length j 0 j∧s 14=iA m∧s 15=iA j) m (by omega) (ay.db _ _ 9 25 3 (by decide) (by simp -implicitDefEqProofs only[↓reduceIte,go_sem,Nat.reduceLT,Nat.reduceEqDiff]) _) ?_ ?_ ?_
 ·refine⟨[],b,rfl,rfl,Nat.le_refl _,hb,by simpa using hj0,?_⟩
  simp -implicitDefEqProofs only[↓reduceIte,go_sem,Nat.reduceLT,Nat.reduceEqDiff,reduceCtorEq]
 ·rintro j s H' hj hw ⟨L,c,rfl,hL,hcl,hcb,hjoin,t0,t2,t9,t14,t15⟩
  have hod:=fun H=>gn c k (by omega) hcb H
  obtain⟨p,hp⟩:=eA c k
  obtain⟨q,hq⟩:∃q,m-j=q+1:=⟨m-j-1,by omega⟩
  have hst:=fun v r h=>nF (k:=k) (n:=q) (b:=c) (r:=r) (v:=v) L h
  have hsp:=fun v r e h he=>nP (k:=k) (n:=q) (b:=c) (r:=r) (v:=v) (e:=e) L h he
  rw[hq]at hjoin
  rcases hv:ej c k with⟨v,r,e⟩
  simp only[hv]at hod hp hst hsp
  simp -implicitDefEqProofs only[↓reduceIte,go_sem,Nat.reduceLT,Nat.reduceEqDiff,reduceCtorEq,t0,t2,t14,t15,hj]
  refine ae.ok (hod _) ?_
  by_cases he:e=0
  ·subst he
   have hsn:L.map aq.enc++[[D.v (.int .i64 v.kind),D.v (.int .i64 v.i),D.v (.string v.s)]]=(L++[v]).map aq.enc:=by simp[aq.enc]
   simp -implicitDefEqProofs only[↓reduceIte,go_sem,ah,au,Nat.reduceAdd,Nat.reduceLT,Nat.reduceLeDiff,Nat.reduceEqDiff,reduceCtorEq,t9,List.length_map,hL,hsn]
   refine⟨by omega,by omega,?_⟩
   simp -implicitDefEqProofs only[↓reduceIte,go_sem,Nat.reduceLT,t15]
   refine c9.cut [.arr 25 3 (j+1) ((L++[v]).map aq.enc)] [A7 v] 1 rfl rfl (by simp -implicitDefEqProofs only[go_sem]) ?_
   refine⟨L++[v],r,rfl,by simp[hL],?_,?_,?_,?_⟩
   ·rw[hp,List.length_drop];omega
   ·intro x hx
    rw[hp]at hx
    exact hcb x (List.mem_of_mem_drop hx)
   ·rw[show m-(j+1)=q by omega,←hst v r rfl,hjoin]
   ·simp -implicitDefEqProofs only[↓reduceIte,go_sem,Nat.reduceLT,Nat.reduceEqDiff,reduceCtorEq,t2,t14,hw]
  ·simp -implicitDefEqProofs only[↓reduceIte,go_sem,au,Nat.reduceAdd,Nat.reduceLT,Nat.reduceEqDiff,he]
   refine aw.ret ?_
   have hN:aX k m b=([],[],e):=by rw[←hjoin];exact hsp v r e rfl he
   rw[hR,hN]
   simp -implicitDefEqProofs only[↓reduceIte,go_sem,Nat.reduceLT,Nat.reduceEqDiff,he]
 ·rintro s H' ⟨L,c,rfl,hL,hcl,hcb,hjoin,t0,t2,t9,t14,t15⟩
  have hN:aX k m b=(L,c,0):=by rw[←hjoin,Nat.sub_self];simp[jt,aX]
  rw[hN]at hR
  simp only[if_true]at hR
  rw[hR]
  clear hR hN hjoin hj0
  simp -implicitDefEqProofs only[↓reduceIte,go_sem,Nat.reduceLT,t14,t15]
  refine aP (fun i s H'=>H'=H++[.arr 25 3 m (L.map aq.enc)]∧(∀j x y,j<i→L[j]?=some x→L[j+1]?=some y→aM x y<0)∧s 0= .d (.list false (aD c))∧s 9= .sl H.length m 0 m∧s 13=iA ((i+1:Nat):Int)) (m-1) (by omega) (ay.refl _ _) ?_ ?_ ?_
  ·refine⟨rfl,fun j x y hj=>by omega,?_⟩
   simp -implicitDefEqProofs only[↓reduceIte,go_sem,Nat.reduceLT,Nat.reduceEqDiff,reduceCtorEq,t0,t9]
  ·rintro i s H' hi hw ⟨rfl,hri,t0,t9,t13⟩
   have h1:=List.getElem?_eq_getElem (show i<L.length by omega)
   have h2:=List.getElem?_eq_getElem (show i+1<L.length by omega)
   generalize L[i]=x at h1
   generalize L[i+1]=y at h2
   have hw1:IntKind.i64.wrap (((i+1:Nat):Int)-1)=(i:Int):=by rw[wrap64_in _ (by omega) (by omega)];omega
   have hw2:IntKind.i64.wrap (((i+1:Nat):Int)+1)=((i+1+1:Nat):Int):=by rw[wrap64_in _ (by omega) (by omega)];omega
   have g0:((i+1:Nat):Int)<(m:Int):=by omega
   have g1:((i:Nat):Int)<(m:Int):=by omega
   generalize hI:i+1=I at*
   simp -implicitDefEqProofs only[↓reduceIte,go_sem,Nat.reduceLT,Nat.reduceEqDiff,t9,t13,show((I:Int)<(m:Int))=True from eq_true g0]
   refine aO K.mixed (by kernel_rfl) ?_
   simp -implicitDefEqProofs only[↓reduceIte,go_sem,ah,Nat.reduceAdd,Nat.reduceLT,Nat.reduceEqDiff,t9,t13,hw1,h1,h2,show I<m by omega,show i<m by omega,aq.enc]
   refine ae.ok (eW x y _) ?_
   by_cases hc:aM x y<0
   ·simp -implicitDefEqProofs only[↓reduceIte,go_sem,Nat.reduceLT,Nat.reduceEqDiff,show(0≤aM x y)=False from eq_false (by omega),t13,hw2]
    refine c9.same ⟨rfl,?_,?_⟩
    ·intro j a b hj
     rcases Nat.lt_or_ge j i with h|h
     ·exact hri j a b h
     ·obtain rfl:j=i:=by omega
      rw[hI,h1,h2]
      rintro⟨rfl⟩ ⟨rfl⟩
      exact hc
    ·simp -implicitDefEqProofs only[↓reduceIte,go_sem,Nat.reduceLT,Nat.reduceEqDiff,reduceCtorEq,t0,t9]
   ·simp -implicitDefEqProofs only[↓reduceIte,go_sem,Nat.reduceLT,show(0≤aM x y)=True from eq_true (by omega)]
    refine aw.ret ?_
    have hno:¬iE L:=fun h=>hc (h i x y h1 (by rw[hI];exact h2))
    rw[if_neg hno]
    simp -implicitDefEqProofs only[↓reduceIte,go_sem,Nat.reduceLT,Nat.reduceEqDiff,Int.reduceEq]
  ·rintro s H' ⟨rfl,hri,t0,t9,t13⟩
   have hyes:iE L:=fun i x y hx hy=>hri i x y (by have:=(List.getElem?_eq_some_iff.1 hy).1;omega) hx hy
   have g0:¬((m-1:Nat):Int)+1<(m:Int):=by omega
   rw[if_pos hyes]
   simp -implicitDefEqProofs only[↓reduceIte,go_sem,Nat.reduceLT,Nat.reduceEqDiff,reduceCtorEq,t0,t9,t13,eq_false g0]
   refine aw.ret ?_
   simp -implicitDefEqProofs only[↓reduceIte,go_sem,Nat.reduceLT,Nat.reduceEqDiff,List.take_of_length_le (show(L.map aq.enc).length≤m by rw[List.length_map];omega)]
theorem A1(b:List Nat)(m:Nat)(k:Int)(hm:m≤4096)(hl:b.length≤140737488351232)(hb:∀c∈b,c<256)(H:aa):
  ag Tryz.prog 156 [.d (.list false (aD b)),iA m,iA k] H (.ok (.bz [.d (.list false ((fQ k m b).1.map aq.enc)),.d (.list false (aD (fQ k m b).2.1)),iA (fQ k m b).2.2])) H:=by
 have h:=zO b m k hm hl hb H
 by_cases he:(fQ k m b).2.2=0
 ·rw[if_pos he]at h
  rw[he]
  exact h
 ·rw[if_neg he]at h
  have hz:fQ k m b=([],[],(fQ k m b).2.2):=by
   unfold fQ at he⊢
   split
   ·rename_i h1
    rw[if_pos h1]at he
    split
    ·rename_i h2
     rw[if_pos h2]at he
     exact absurd h1 he
    ·rfl
   ·rfl
  rw[hz]
  exact ag.bE h (.cons .nil (.cons .nil (.cons (.refl _) .nil)))
def iI(l:List aq)(k:Int):List Nat:=if aS l k=0 then aY l else[]
theorem vb{l:List aq}(hok:∀v∈l,eJ v.i)(hm:∀v∈l,cA v=true):∀k,k≤l.length→(aY (l.take k)).length≤k* 1035:=by
 intro k
 induction k with
 |zero=>intro _;simp[aY]
 |succ k ih=>
  intro hk
  have hk':k<l.length:=by omega
  rw[List.take_succ_eq_append_getElem hk',fG,List.length_append]
  have h1:=ih (by omega)
  have h2:=dk (hok _ (List.getElem_mem hk')) (hm _ (List.getElem_mem hk'))
  omega
theorem qW(l:List aq)(k:Int)(hok:∀v∈l,eJ v.i)(H:aa)(hl:l.length≤1000000000000):
  ag Tryz.prog 76 [.d (.list false (l.map aq.enc)),iA k] H (.ok (.bz [.d (.list false (aD (iI l k))),iA (aS l k)])) H:=by
 by_cases hp:aS l k=0
 ·rw[show iI l k=aY l from if_pos hp]
  have hmay:=eu hp
  have h4:=dO hp
  have hWb:=vb hok hmay
  refine ag.aj (hint:=(fun _=>false)) Tryz.func76 (by kernel_rfl) rfl [4,5] (by kernel_rfl) (by decide) (by simp[Tryz.ntmps76]) ?_
  rw[Tryz.ntmps76]
  simp -implicitDefEqProofs only[↓reduceIte,go_sem,Nat.reduceLT,Nat.reduceEqDiff,reduceCtorEq]
  refine ae.ok (fq l k false _ (by omega)) ?_
  rw[hp]
  simp -implicitDefEqProofs only[↓reduceIte,go_sem,Nat.reduceLT,reduceCtorEq]
  refine bW (fun j s H'=>∃ver,H'=H++[.arr 5 1 ver (aD (aY (l.take j)))]∧s 7= .sl H.length ver 0 (aY (l.take j)).length∧s 18= .d (.list false (l.map aq.enc))∧s 19=iA l.length∧s 20=iA j) l.length (by omega) (ay.db _ _ 7 5 1 (by decide) (by simp -implicitDefEqProofs only[↓reduceIte,go_sem,Nat.reduceLT,Nat.reduceEqDiff]) _) ?_ ?_ ?_
  ·refine⟨0,rfl,?_⟩
   simp -implicitDefEqProofs only[↓reduceIte,go_sem,Nat.reduceLT,Nat.reduceEqDiff]
   rfl
  ·rintro j s H' hj hw ⟨ver,rfl,t7,t18,t19,t20⟩
   have hx:=List.getElem?_eq_getElem hj
   have hm:=List.getElem_mem hj
   have hb:=hWb j (by omega)
   have hvl:=dk (hok _ hm) (hmay _ hm)
   have e1:aY (l.take (j+1))=aY (l.take j)++cW l[j]:=by rw[List.take_succ_eq_append_getElem hj,fG]
   have hvd:=fun H=>fX l[j] (hok _ hm) (hmay _ hm) H
   rw[e1]
   generalize aY (l.take j)=B at*
   generalize l[j]=w at*
   simp -implicitDefEqProofs only[↓reduceIte,go_sem,ah,au,Nat.reduceAdd,Nat.reduceLT,Nat.reduceEqDiff,t18,t19,t20,hj,hx,aq.enc]
   refine ae.ok (hvd _) ?_
   simp -implicitDefEqProofs only[↓reduceIte,go_sem,Nat.reduceLT,Nat.reduceEqDiff,t7,aL,ai,dh]
   refine⟨by omega,by omega,?_⟩
   simp -implicitDefEqProofs only[↓reduceIte,go_sem,Nat.reduceLT,t20]
   refine c9.cut [.arr 5 1 (ver+1) (aD (B++cW w))] [.box 25 3 0 1 [iA w.kind,iA w.i,sA w.s]] 1 rfl rfl (by simp -implicitDefEqProofs only[go_sem]) ?_
   refine⟨ver+1,rfl,?_⟩
   simp -implicitDefEqProofs only[↓reduceIte,go_sem,Nat.reduceLT,Nat.reduceEqDiff,t18,t19,hw]
  ·rintro s H' ⟨ver,rfl,t7,t18,t19,t20⟩
   rw[show l.take l.length=l from List.take_length]at*
   simp -implicitDefEqProofs only[↓reduceIte,go_sem,Nat.reduceLT,Nat.reduceEqDiff,t7,t19,t20]
   refine aw.ret ?_
   simp -implicitDefEqProofs only[↓reduceIte,go_sem,Nat.reduceLT,Nat.reduceEqDiff,List.take_of_length_le (Nat.le_of_eq (ai (aY l)))]
 ·rw[show iI l k=[]from if_neg hp]
  refine ag.bE (cs:=[.d (.v (.slice none 0 0)),iA (aS l k)]) ?_ (.cons .nil (.cons (.refl _) .nil))
  refine ag.aj (hint:=(fun _=>false)) Tryz.func76 (by kernel_rfl) rfl [4,5] (by kernel_rfl) (by decide) (by simp[Tryz.ntmps76]) ?_
  rw[Tryz.ntmps76]
  simp -implicitDefEqProofs only[↓reduceIte,go_sem,Nat.reduceLT,Nat.reduceEqDiff,reduceCtorEq]
  refine ae.ok (fq l k false _ (by omega)) ?_
  simp -implicitDefEqProofs only[↓reduceIte,go_sem,Nat.reduceLT,Nat.reduceEqDiff,hp]
  refine aw.aI ?_
  simp -implicitDefEqProofs only[↓reduceIte,go_sem,Nat.reduceLT,Nat.reduceEqDiff]
def bB(b:List Nat):aT:= .box 22 1 0 1 [.d (.list false (aD b))]
def kB(k:Int):aT:= .box 3 1 0 1 [iA k]
theorem yj(b:List Nat)(k:Int)(hl:b.length≤140737488351232)(hb:∀c∈b,c<256)(G:aa)(ib ik:Nat)(h1:G[ib]?=some (bB b))(h2:G[ik]?=some (kB k)):
  ag Tryz.prog 115 [.ptr ib 0 0 0,.ptr ik 0 0 0] G (.ok (.bz [(ej b k).1.av,iA (ej b k).2.2])) (G.set ib (bB (ej b k).2.1)):=by
 have hd:=fun H=>gn b k hl hb H
 generalize ej b k=t at*
 obtain⟨v,r,e⟩:=t
 simp only at hd⊢
 have l1:=az h1
 have l2:=az h2
 unfold bB kB at*
 refine ag.bj (hint:=fun _=>false) Tryz.func115 (by kernel_rfl) rfl [.cell 2 25,.tmp 3] (by kernel_rfl) (by simp[Tryz.ntmps115]) ?_
 rw[Tryz.ntmps115]
 simp -implicitDefEqProofs only[↓reduceIte,go_sem,ah,Nat.reduceLT,Nat.reduceEqDiff,reduceCtorEq,h1,h2,List.getElem?_append_left l1,List.getElem?_append_left l2]
 refine ae.ok (hd _) ?_
 have hset:∀x y:aT,(G++[x]).set ib y=G.set ib y++[x]:=fun x y=>List.set_append_left ib y l1
 have hget:∀(x y:aT),(G.set ib y++[x])[G.length]?=some x:=fun x y=>by rw[List.getElem?_append_right (by rw[List.length_set];exact Nat.le_refl _),List.length_set,Nat.sub_self];rfl
 have hst2:∀(x y z:aT),(G.set ib y++[x]).set G.length z=G.set ib y++[z]:=fun x y z=>by rw[List.set_append_right G.length z (by rw[List.length_set];exact Nat.le_refl _),List.length_set,Nat.sub_self];rfl
 simp -implicitDefEqProofs only[↓reduceIte,go_sem,ah,au,Nat.reduceAdd,Nat.reduceLT,Nat.reduceEqDiff,reduceCtorEq,h1,List.getElem?_append_left l1,hset,hget,hst2]
 refine aZ.KJ (by simp -implicitDefEqProofs only[go_sem]) ?_
 simp -implicitDefEqProofs only[↓reduceIte,go_sem,ah,Nat.reduceAdd,Nat.reduceLT,Nat.reduceLeDiff,Nat.reduceEqDiff,aJ,a8,hget]
def de(b:List Nat)(n k:Int):List aq×Int:=
 if bJ k=false then([],1)
 else if n<0 then([],2)
 else if 4096<n then([],2)
 else if(aX k n.toNat b).2.2≠0 then([],(aX k n.toNat b).2.2)
 else if(aX k n.toNat b).2.1≠[]then([],4)
 else((aX k n.toNat b).1,0)
theorem vM(b:List Nat)(n k:Int)(hl:b.length≤140737488351232)(hb:∀c∈b,c<256)(H:aa):
  ag Tryz.prog 78 [.d (.list false (aD b)),iA n,iA k] H (.ok (.bz [.d (.list false ((de b n k).1.map aq.enc)),iA (de b n k).2])) H:=by
 by_cases hk:bJ k=false
 ·rw[show de b n k=([],1)from if_pos hk]
  refine ag.bE (cs:=[.d (.v (.slice none 0 0)),iA 1]) ?_ (.cons .nil (.cons (.refl _) .nil))
  refine ag.aj (hint:=(fun _=>false)) Tryz.func78 (by kernel_rfl) rfl [6,7] (by kernel_rfl) (by decide) (by simp[Tryz.ntmps78]) ?_
  rw[Tryz.ntmps78]
  simp -implicitDefEqProofs only[↓reduceIte,go_sem,ah,Nat.reduceLT,Nat.reduceEqDiff]
  refine ae.ok (gi k _) ?_
  simp -implicitDefEqProofs only[↓reduceIte,go_sem,Nat.reduceLT,hk]
  refine aw.ret ?_
  simp -implicitDefEqProofs only[↓reduceIte,go_sem,Nat.reduceLT,Nat.reduceEqDiff]
 rw[show de b n k=_ from if_neg hk]
 have hk1:bJ k=true:=by simpa using hk
 by_cases h1:n<0
 ·rw[if_pos h1]
  refine ag.bE (cs:=[.d (.v (.slice none 0 0)),iA 2]) ?_ (.cons .nil (.cons (.refl _) .nil))
  refine ag.aj (hint:=(fun _=>false)) Tryz.func78 (by kernel_rfl) rfl [6,7] (by kernel_rfl) (by decide) (by simp[Tryz.ntmps78]) ?_
  rw[Tryz.ntmps78]
  simp -implicitDefEqProofs only[↓reduceIte,go_sem,ah,Nat.reduceLT,Nat.reduceEqDiff]
  refine ae.ok (gi k _) ?_
  simp -implicitDefEqProofs only[↓reduceIte,go_sem,Nat.reduceLT,Nat.reduceEqDiff,hk1,h1]
  refine aw.ret ?_
  simp -implicitDefEqProofs only[↓reduceIte,go_sem,Nat.reduceLT,Nat.reduceEqDiff]
 rw[if_neg h1]
 by_cases h2:4096<n
 ·rw[if_pos h2]
  refine ag.bE (cs:=[.d (.v (.slice none 0 0)),iA 2]) ?_ (.cons .nil (.cons (.refl _) .nil))
  refine ag.aj (hint:=(fun _=>false)) Tryz.func78 (by kernel_rfl) rfl [6,7] (by kernel_rfl) (by decide) (by simp[Tryz.ntmps78]) ?_
  rw[Tryz.ntmps78]
  simp -implicitDefEqProofs only[↓reduceIte,go_sem,ah,Nat.reduceLT,Nat.reduceEqDiff]
  refine ae.ok (gi k _) ?_
  simp -implicitDefEqProofs only[↓reduceIte,go_sem,Nat.reduceLT,Nat.reduceEqDiff,reduceCtorEq,hk1,h1,h2]
  refine aw.ret ?_
  simp -implicitDefEqProofs only[↓reduceIte,go_sem,Nat.reduceLT,Nat.reduceEqDiff]
 rw[if_neg h2]
 obtain⟨m,rfl⟩:∃m:Nat,n=(m:Int):=⟨n.toNat,by omega⟩
 rw[Int.toNat_natCast]
 have h1f:((m:Int)<0)=False:=eq_false h1
 have h2f:((4096:Int)<(m:Int))=False:=eq_false h2
 have hj0:=mM k m b
 suffices h:ag Tryz.prog 78 [.d (.list false (aD b)),iA m,iA k] H (.ok (if(aX k m b).2.2≠0 then .bz [.d (.v (.slice none 0 0)),iA (aX k m b).2.2]else if(aX k m b).2.1≠[]then .bz [.d (.v (.slice none 0 0)),iA 4]else .bz [.d (.list false ((aX k m b).1.map aq.enc)),iA 0])) H by
  by_cases c1:(aX k m b).2.2≠0
  ·rw[if_pos c1]at h⊢
   exact ag.bE h (.cons .nil (.cons (.refl _) .nil))
  ·rw[if_neg c1]at h⊢
   by_cases c2:(aX k m b).2.1≠[]
   ·rw[if_pos c2]at h⊢
    exact ag.bE h (.cons .nil (.cons (.refl _) .nil))
   ·rw[if_neg c2]at h⊢
    exact h
 refine ag.aj (hint:=(fun _=>false)) Tryz.func78 (by kernel_rfl) rfl [6,7] (by kernel_rfl) (by decide) (by simp[Tryz.ntmps78]) ?_
 rw[Tryz.ntmps78]
 simp -implicitDefEqProofs only[↓reduceIte,go_sem,ah,Nat.reduceLT,Nat.reduceEqDiff]
 refine ae.ok (gi k _) ?_
 simp -implicitDefEqProofs only[↓reduceIte,go_sem,Nat.reduceLT,Nat.reduceEqDiff,reduceCtorEq,hk1,h1f,h2f]
 refine bW (fun j s H'=>∃L c,H'=H++[bB c,kB k,.arr 25 3 j (L.map aq.enc)]∧L.length=j∧c.length≤b.length∧(∀x∈c,x<256)∧jt L (aX k (m-j) c)=aX k m b∧s 3= .ptr H.length 0 0 0∧s 8= .fn 115 [.ptr H.length 0 0 0,.ptr (H.length+1) 0 0 0]∧s 9= .sl (H.length+2) j 0 j∧s 24=iA m∧s 25=iA j) m (by omega) (ay.db _ _ 9 25 3 (by decide) (by simp -implicitDefEqProofs only[↓reduceIte,go_sem,Nat.reduceLT,Nat.reduceEqDiff]) _) ?_ ?_ ?_
 ·refine⟨[],b,by simp -implicitDefEqProofs only[go_sem,bB,kB],rfl,Nat.le_refl _,hb,by simpa using hj0,?_⟩
  simp -implicitDefEqProofs only[↓reduceIte,go_sem,Nat.reduceAdd,Nat.reduceLT,Nat.reduceEqDiff]
 ·rintro j s H' hj hw ⟨L,c,rfl,hL,hcl,hcb,hjoin,t3,t8,t9,t24,t25⟩
  obtain⟨p,hp⟩:=eA c k
  obtain⟨q,hq⟩:∃q,m-j=q+1:=⟨m-j-1,by omega⟩
  have hst:=fun v r h=>nF (k:=k) (n:=q) (b:=c) (r:=r) (v:=v) L h
  have hsp:=fun v r e h he=>nP (k:=k) (n:=q) (b:=c) (r:=r) (v:=v) (e:=e) L h he
  have hod:=yj c k (by omega) hcb (H++[bB c,kB k,.arr 25 3 j (L.map aq.enc)]) H.length (H.length+1) (by simp) (by simp)
  rw[show ∀x,(H++[bB c,kB k,.arr 25 3 j (L.map aq.enc)]).set H.length x=H++[x,kB k,.arr 25 3 j (L.map aq.enc)]from fun x=>by simp[]]at hod
  rw[hq]at hjoin
  rcases hv:ej c k with⟨v,r,e⟩
  simp only[hv]at hod hp hst hsp
  simp -implicitDefEqProofs only[↓reduceIte,go_sem,Nat.reduceLT,Nat.reduceEqDiff,t8,t24,t25,hj]
  refine ae.ok hod ?_
  by_cases he:e=0
  ·subst he
   have hsn:L.map aq.enc++[[D.v (.int .i64 v.kind),D.v (.int .i64 v.i),D.v (.string v.s)]]=(L++[v]).map aq.enc:=by simp[aq.enc]
   simp -implicitDefEqProofs only[↓reduceIte,go_sem,ah,au,Nat.reduceAdd,Nat.reduceLT,Nat.reduceLeDiff,Nat.reduceEqDiff,t9,List.length_map,hL,hsn]
   refine⟨by omega,by omega,?_⟩
   simp -implicitDefEqProofs only[↓reduceIte,go_sem,Nat.reduceLT,t25]
   refine c9.cut [bB r,kB k,.arr 25 3 (j+1) ((L++[v]).map aq.enc)] [.box 25 3 0 1 [iA v.kind,iA v.i,sA v.s]] 3 rfl rfl (by simp -implicitDefEqProofs only[go_sem,bB,kB]) ?_
   refine⟨L++[v],r,rfl,by simp[hL],?_,?_,?_,?_⟩
   ·rw[hp,List.length_drop];omega
   ·intro x hx
    rw[hp]at hx
    exact hcb x (List.mem_of_mem_drop hx)
   ·rw[show m-(j+1)=q by omega,←hst v r rfl,hjoin]
   ·simp -implicitDefEqProofs only[↓reduceIte,go_sem,Nat.reduceLT,Nat.reduceEqDiff,t3,t8,t24,hw]
  ·simp -implicitDefEqProofs only[↓reduceIte,go_sem,au,Nat.reduceAdd,Nat.reduceLT,Nat.reduceEqDiff,he]
   refine aw.ret ?_
   have hN:aX k m b=([],[],e):=by rw[←hjoin];exact hsp v r e rfl he
   rw[hN]
   simp -implicitDefEqProofs only[↓reduceIte,go_sem,Nat.reduceLT,Nat.reduceEqDiff,he,ne_eq,not_false_eq_true]
 ·rintro s H' ⟨L,c,rfl,hL,hcl,hcb,hjoin,t3,t8,t9,t24,t25⟩
  have hN:aX k m b=(L,c,0):=by rw[←hjoin,Nat.sub_self];simp[jt,aX]
  rw[hN]
  by_cases hc:c=[]
  ·subst hc
   simp -implicitDefEqProofs only[↓reduceIte,go_sem,ah,Nat.reduceLT,Nat.reduceEqDiff,Int.reduceLT,t3,t9,t24,t25,bB,kB,ai,List.length_nil]
   refine aw.ret ?_
   simp -implicitDefEqProofs only[↓reduceIte,go_sem,Nat.reduceLT,Nat.reduceEqDiff,ne_eq,not_true_eq_false,List.take_of_length_le (show(L.map aq.enc).length≤m by rw[List.length_map];omega)]
  ·have hcp:0<c.length:=List.length_pos_iff.2 hc
   simp -implicitDefEqProofs only[↓reduceIte,go_sem,ah,Nat.reduceLT,Nat.reduceEqDiff,t3,t24,t25,bB,kB,ai,show(0<(c.length:Int))=True from eq_true (by omega)]
   refine aw.ret ?_
   simp -implicitDefEqProofs only[↓reduceIte,go_sem,Nat.reduceLT,Nat.reduceEqDiff,ne_eq,hc,not_true_eq_false,not_false_eq_true]
theorem yD(l m:List aq)(n1 n2:Bool)(H:aa)(hl:l.length≤1000000000000):ag Tryz.prog 173 [.d (.list n1 (l.map aq.enc)),.d (.list n2 (m.map aq.enc))] H (.ok (bA (decide (l=m)))) H:=by
 refine ag.aj (hint:=(fun _=>false)) Tryz.func173 (by kernel_rfl) rfl [4] (by kernel_rfl) (by decide) (by simp[Tryz.ntmps173]) ?_
 rw[Tryz.ntmps173]
 simp -implicitDefEqProofs only[↓reduceIte,go_sem,Nat.reduceLT,Nat.reduceEqDiff,reduceCtorEq]
 by_cases hlm:l.length=m.length
 ·refine eQ (by simp -implicitDefEqProofs only[go_sem,hlm]) ?_
  simp -implicitDefEqProofs only[go_sem]
  refine aP (fun k s H'=>H'=H∧l.take k=m.take k∧s 0= .d (.list n1 (l.map aq.enc))∧s 1= .d (.list n2 (m.map aq.enc))∧s 5=iA k) l.length (by omega) (ay.refl _ _) ?_ ?_ ?_
  ·simp -implicitDefEqProofs only[↓reduceIte,go_sem,Nat.reduceLT,Nat.reduceEqDiff,reduceCtorEq,List.take_zero]
  ·rintro k s H' hk hw ⟨rfl,hp,h0,h1,h5⟩
   have hx:=List.getElem?_eq_getElem hk
   have hy:=List.getElem?_eq_getElem (show k<m.length by omega)
   have e1:=List.take_succ_eq_append_getElem hk
   have e2:=List.take_succ_eq_append_getElem (show k<m.length by omega)
   have e3:∀(g:l=m),l[k]=m[k]'(by omega):=by intro g;subst g;rfl
   generalize l[k]=x at hx e1 e3
   generalize m[k]'(by omega)=y at hy e2 e3
   have hk2:k<m.length:=by omega
   simp -implicitDefEqProofs only[↓reduceIte,go_sem,Nat.reduceLT,Nat.reduceEqDiff,reduceCtorEq,h0,h5,hk]
   refine aO K.mixed (by kernel_rfl) ?_
   simp -implicitDefEqProofs only[↓reduceIte,go_sem,Nat.reduceAdd,Nat.reduceLT,Nat.reduceEqDiff,reduceCtorEq,h0,h1,h5,hx,hy,aq.enc,fm]
   by_cases hxy:x=y
   ·refine eQ (by simp -implicitDefEqProofs only[go_sem,hxy]) ?_
    simp -implicitDefEqProofs only[↓reduceIte,go_sem,Nat.reduceLT,Nat.reduceEqDiff,h5]
    refine c9.same ⟨rfl,by rw[e1,e2,hp,hxy],?_⟩
    simp -implicitDefEqProofs only[↓reduceIte,go_sem,Nat.reduceLT,Nat.reduceEqDiff,reduceCtorEq,h0,h1,hw]
   ·refine fc (by simp -implicitDefEqProofs only[go_sem,hxy]) ?_
    simp -implicitDefEqProofs only[go_sem]
    refine aw.aI ?_
    simp -implicitDefEqProofs only[↓reduceIte,go_sem,Nat.reduceLT,show ¬l=m from fun g=>hxy (e3 g)]
  ·rintro s H' ⟨rfl,hp,h0,h1,h5⟩
   simp -implicitDefEqProofs only[↓reduceIte,go_sem,Nat.reduceLT,Nat.reduceEqDiff,reduceCtorEq,h0,h5]
   refine aw.aI ?_
   rw[List.take_length,hlm,List.take_length]at hp
   simp -implicitDefEqProofs only[↓reduceIte,go_sem,Nat.reduceLT,hp]
 ·simp -implicitDefEqProofs only[go_sem,show((l.length:Int)=(m.length:Int))=False from eq_false (by omega)]
  refine aw.aI ?_
  simp -implicitDefEqProofs only[↓reduceIte,go_sem,Nat.reduceLT,show ¬l=m from fun g=>hlm (by rw[g])]
def dc(r:Nat×aq):List D:=[.v (.int .i64 r.1),.v (.int .i64 r.2.kind),.v (.int .i64 r.2.i),.v (.string r.2.s)]
def kI(r:Nat×aq):AV:= .agg [iA r.1,iA r.2.kind,iA r.2.i,sA r.2.s]
def zR:Nat×aq:=(0,zV)
def cM(R:List (Nat×aq)):Nat×aq:=R.getLast?.getD zR
def gH(R:List (Nat×aq))(v:aq):List (Nat×aq):=if R≠[]∧(cM R).2=v then R.dropLast++[((cM R).1+1,v)]else R++[(1,v)]
def cZ(l:List aq):List (Nat×aq):=l.foldl gH []
theorem nJ(l:List aq)(k:Nat)(h:k<l.length):cZ (l.take (k+1))=gH (cZ (l.take k)) l[k]:=by
 unfold cZ
 rw[List.take_succ_eq_append_getElem h,List.foldl_append];rfl
theorem HF(R:List (Nat×aq))(v:aq):(gH R v).length≤R.length+1:=by
 unfold gH
 split
 ·rw[List.length_append,List.length_dropLast,List.length_singleton];omega
 ·simp
theorem ka(l:List aq):∀k,(cZ (l.take k)).length≤k:=by
 intro k
 induction k with
 |zero=>simp[cZ]
 |succ k ih=>
  rcases Nat.lt_or_ge k l.length with h|h
  ·rw[nJ l k h]
   have:=HF (cZ (l.take k)) l[k]
   omega
  ·rw[List.take_of_length_le (by omega)]
   rw[List.take_of_length_le h]at ih
   omega
theorem H7{R:List (Nat×aq)}{k:Nat}(h:∀r∈R,r.1≤k)(v:aq):∀r∈gH R v,r.1≤k+1:=by
 intro r hr
 unfold gH at hr
 split at hr
 ·rename_i hc
  rcases List.mem_append.1 hr with hr|hr
  ·have:=h r (List.dropLast_subset R hr);omega
  ·simp at hr
   have hm:cM R∈R:=by
    unfold cM
    rw[List.getLast?_eq_getElem?]
    have hp:0<R.length:=List.length_pos_iff.2 hc.1
    rw[List.getElem?_eq_getElem (by omega)]
    exact List.getElem_mem _
   have:=h _ hm
   rw[hr];simp only;omega
 ·rcases List.mem_append.1 hr with hr|hr
  ·have:=h r hr;omega
  ·simp at hr;rw[hr];simp
theorem kr(l:List aq):∀k,∀r∈cZ (l.take k),r.1≤k:=by
 intro k
 induction k with
 |zero=>intro r hr;simp[cZ]at hr
 |succ k ih=>
  rcases Nat.lt_or_ge k l.length with h|h
  ·rw[nJ l k h]
   exact H7 ih _
  ·rw[List.take_of_length_le (by omega)]
   rw[List.take_of_length_le h]at ih
   intro r hr
   have:=ih r hr;omega
theorem uQ(R:List (Nat×aq))(G:aa)(id ver:Nat)(hl:R.length≤1000000000000)(h:G[id]?=some (.arr 165 4 ver (R.map dc))):
  ag Tryz.prog 148 [.sl id ver 0 R.length] G (.ok (.bz [kI (cM R),bA (decide (R≠[]))])) G:=by
 have hlt:=az h
 refine ag.bj (hint:=fun _=>false) Tryz.func148 (by kernel_rfl) rfl [.cell 2 165,.tmp 3] (by kernel_rfl) (by simp[Tryz.ntmps148]) ?_
 rw[Tryz.ntmps148]
 by_cases h0:R=[]
 ·subst h0
  simp only[List.length_nil,List.map_nil]at h⊢
  simp -implicitDefEqProofs only[↓reduceIte,go_sem,ah,au,Nat.reduceAdd,Nat.reduceLT,Nat.reduceEqDiff,reduceCtorEq,h,List.getElem?_append_left hlt,List.length_nil]
  refine aZ.ret ?_
  simp -implicitDefEqProofs only[↓reduceIte,go_sem,ah,Nat.reduceAdd,Nat.reduceLT,Nat.reduceLeDiff,Nat.reduceEqDiff,aJ,a8,kI,cM,zR,zV,cP,List.getLast?_nil,Option.getD_none]
 ·have hpos:0<R.length:=List.length_pos_iff.2 h0
  obtain⟨n,hn⟩:∃n,R.length=n+1:=⟨R.length-1,by omega⟩
  have hget:R[n]?=some (cM R):=by
   unfold cM
   rw[List.getLast?_eq_getElem?,hn,Nat.add_sub_cancel,List.getElem?_eq_getElem (by omega)]
   rfl
  generalize hm:R.length=m at*
  have hw:IntKind.i64.wrap ((m:Int)-1)=(n:Int):=by rw[wrap64_in _ (by omega) (by omega)];omega
  generalize cM R=q at*
  simp -implicitDefEqProofs only[↓reduceIte,go_sem,ah,au,Nat.reduceAdd,Nat.reduceLT,Nat.reduceEqDiff,reduceCtorEq,h,List.getElem?_append_left hlt,hw,hget,show((m:Int)=0)=False from eq_false (by omega),show((n:Int)<(m:Int))=True from eq_true (by omega),show((0:Int)≤(n:Int))=True from eq_true (by omega),Option.map_some,dc,List.take_succ_cons,List.take_zero,List.map_cons,List.map_nil,List.length_cons,List.length_nil]
  refine aZ.ret ?_
  simp -implicitDefEqProofs only[↓reduceIte,go_sem,ah,Nat.reduceAdd,Nat.reduceLT,Nat.reduceLeDiff,Nat.reduceEqDiff,aJ,a8,kI,h0,not_false_eq_true,decide_true]
theorem HG{R:List (Nat×aq)}{v:aq}(h:¬(R≠[]∧(cM R).2=v)):(gH R v).map dc=R.map dc++[[.v (.int .i64 1),.v (.int .i64 v.kind),.v (.int .i64 v.i),.v (.string v.s)]]:=by
 unfold gH
 rw[if_neg h]
 simp[dc]
theorem IA{R:List (Nat×aq)}{v:aq}{n:Nat}(h:R≠[]∧(cM R).2=v)(hn:R.length=n+1):R[n]?=some (cM R)∧
  (R.map dc).set n [.v (.int .i64 (((cM R).1+1:Nat):Int)),.v (.int .i64 v.kind),.v (.int .i64 v.i),.v (.string v.s)]=(gH R v).map dc∧(gH R v).length=n+1:=by
 have hg:R[n]?=some (cM R):=by
  unfold cM
  rw[List.getLast?_eq_getElem?,hn,Nat.add_sub_cancel,List.getElem?_eq_getElem (by omega)]
  rfl
 refine⟨hg,?_,?_⟩
 ·unfold gH
  rw[if_pos h]
  have hd:R=R.dropLast++[cM R]:=by
   rw[List.dropLast_eq_take,hn,Nat.add_sub_cancel]
   conv=>lhs;rw[←List.take_append_drop n R]
   obtain⟨h1,h2⟩:=List.getElem?_eq_some_iff.1 hg
   rw[List.drop_eq_getElem_cons h1,h2,List.drop_eq_nil_of_le (by omega)]
  have hl:R.dropLast.length=n:=by rw[List.length_dropLast,hn];rfl
  generalize cM R=q at*
  rw[List.map_append]
  generalize R.dropLast=D at*
  subst hd
  rw[List.map_append,List.set_append_right n _ (by rw[List.length_map,hl];exact Nat.le_refl _),List.length_map,hl,Nat.sub_self]
  rfl
 ·unfold gH
  rw[if_pos h,List.length_append,List.length_dropLast,hn];rfl
theorem Es(l:List aq)(nn:Bool)(hl:l.length≤1000000000)(H:aa):
  ag Tryz.prog 116 [.d (.list nn (l.map aq.enc))] H (.ok (.d (.list false ((cZ l).map dc)))) H:=by
 have hlen:=ka l
 have hcnt:=kr l
 refine ag.aj (hint:=(fun _=>false)) Tryz.func116 (by kernel_rfl) rfl [2] (by kernel_rfl) (by decide) (by simp[Tryz.ntmps116]) ?_
 rw[Tryz.ntmps116]
 simp -implicitDefEqProofs only[↓reduceIte,go_sem,Nat.reduceLT,reduceCtorEq]
 refine bW (fun k s H'=>∃ver,H'=H++[.arr 165 4 ver ((cZ (l.take k)).map dc)]∧s 3= .sl H.length ver 0 (cZ (l.take k)).length∧s 8= .d (.list nn (l.map aq.enc))∧s 9=iA l.length∧s 10=iA k) l.length (by omega) (ay.db _ _ 3 165 4 (by decide) (by simp -implicitDefEqProofs only[↓reduceIte,go_sem,Nat.reduceLT,Nat.reduceEqDiff]) _) ?_ ?_ ?_
 ·refine⟨0,rfl,?_⟩
  simp -implicitDefEqProofs only[↓reduceIte,go_sem,Nat.reduceLT,Nat.reduceEqDiff]
  rfl
 ·rintro k s H' hk hw ⟨ver,rfl,t3,t8,t9,t10⟩
  have hx:=List.getElem?_eq_getElem hk
  have e1:=nJ l k hk
  have hR:=hlen k
  have hC:=hcnt k
  rw[e1]
  generalize l[k]=v at*
  generalize cZ (l.take k)=R at*
  have hld:=uQ R (H++[.arr 165 4 ver (R.map dc),.box 25 3 0 1 [iA v.kind,iA v.i,sA v.s]]) H.length ver (by omega) (by simp)
  simp -implicitDefEqProofs only[↓reduceIte,go_sem,au,Nat.reduceAdd,Nat.reduceLT,Nat.reduceEqDiff,t3,t8,t9,t10,hk,hx,aq.enc]
  refine ae.ok hld ?_
  by_cases hc:R≠[]∧(cM R).2=v
  ·obtain⟨n,hn⟩:∃n,R.length=n+1:=⟨R.length-1,by have:=List.length_pos_iff.2 hc.1;omega⟩
   obtain⟨a1,a2,a3⟩:=IA hc hn
   rw[a3]
   rw[hn]at t3
   have h1:=hc.1
   have h2:=hc.2
   generalize cM R=q at*
   obtain⟨m,w⟩:=q
   simp only at h2 a2
   subst h2
   have hm:=hC _ (List.mem_of_getElem? a1)
   simp only at hm
   have w1:IntKind.i64.wrap ((m:Int)+1)=((m+1:Nat):Int):=by rw[wrap64_in _ (by omega) (by omega)];rfl
   generalize hz:n+1=z at*
   have w2:IntKind.i64.wrap ((z:Int)-1)=(n:Int):=by rw[wrap64_in _ (by omega) (by omega)];omega
   generalize hy:((m+1:Nat):Int)=y at*
   generalize (gH R w).map dc=R2 at*
   simp -implicitDefEqProofs only[↓reduceIte,go_sem,ah,au,Nat.reduceAdd,Nat.reduceLT,Nat.reduceLeDiff,Nat.reduceEqDiff,kI,ne_eq,h1,not_false_eq_true,decide_true,fm,t3,hn,w2,show((n:Int)<(z:Int))=True from eq_true (by omega),show((0:Int)≤(n:Int))=True from eq_true (by omega),a1,Option.map_some,dc,List.take_succ_cons,List.take_zero,List.map_cons,List.map_nil,List.length_cons,List.length_nil,w1,List.drop_succ_cons,List.drop_zero,a2]
   simp -implicitDefEqProofs only[↓reduceIte,go_sem,Nat.reduceLT,t10]
   refine c9.cut [.arr 165 4 ver R2] [.box 25 3 0 1 [iA w.kind,iA w.i,sA w.s],.box 165 4 0 1 [iA m,iA w.kind,iA w.i,sA w.s]] 1 rfl rfl (by simp -implicitDefEqProofs only[go_sem]) ?_
   refine⟨ver,rfl,?_⟩
   simp -implicitDefEqProofs only[↓reduceIte,go_sem,Nat.reduceLT,Nat.reduceEqDiff,t3,t8,t9,hw]
  ·have a1:=HG hc
   have a2:(gH R v).length=R.length+1:=by unfold gH;rw[if_neg hc,List.length_append];rfl
   rw[a2]
   by_cases h1:R=[]
   ·subst h1
    generalize (gH [] v).map dc=R2 at*
    simp only[List.length_nil,List.map_nil,List.nil_append]at a1 t3⊢
    subst a1
    simp -implicitDefEqProofs only[↓reduceIte,go_sem,ah,au,Nat.reduceAdd,Nat.reduceLT,Nat.reduceLeDiff,Nat.reduceEqDiff,reduceCtorEq,kI,cM,zR,zV,cP,List.getLast?_nil,Option.getD_none,ne_eq,not_true_eq_false,decide_false,t3,List.length_nil]
    simp -implicitDefEqProofs only[↓reduceIte,go_sem,Nat.reduceLT,t10]
    refine c9.cut [.arr 165 4 (ver+1) [[.v (.int .i64 1),.v (.int .i64 v.kind),.v (.int .i64 v.i),.v (.string v.s)]]] [.box 25 3 0 1 [iA v.kind,iA v.i,sA v.s],.box 165 4 0 1 [iA 0,iA 0,iA 0,sA ⟨#[]⟩]] 1 rfl rfl (by simp -implicitDefEqProofs only[go_sem]) ?_
    refine⟨ver+1,rfl,?_⟩
    simp -implicitDefEqProofs only[↓reduceIte,go_sem,Nat.reduceLT,Nat.reduceEqDiff,t8,t9,hw]
   ·have h2:¬(cM R).2=v:=fun h=>hc ⟨h1,h⟩
    generalize cM R=q at*
    obtain⟨m,w⟩:=q
    simp only at h2
    generalize (gH R v).map dc=R2 at*
    subst a1
    simp -implicitDefEqProofs only[↓reduceIte,go_sem,ah,au,Nat.reduceAdd,Nat.reduceLT,Nat.reduceLeDiff,Nat.reduceEqDiff,kI,ne_eq,h1,not_false_eq_true,decide_true,fm,h2,decide_false,t3,List.length_map]
    refine⟨by omega,by omega,?_⟩
    simp -implicitDefEqProofs only[↓reduceIte,go_sem,Nat.reduceLT,t10]
    refine c9.cut [.arr 165 4 (ver+1) (R.map dc++[[.v (.int .i64 1),.v (.int .i64 v.kind),.v (.int .i64 v.i),.v (.string v.s)]])] [.box 25 3 0 1 [iA v.kind,iA v.i,sA v.s],.box 165 4 0 1 [iA m,iA w.kind,iA w.i,sA w.s]] 1 rfl rfl (by simp -implicitDefEqProofs only[go_sem]) ?_
    refine⟨ver+1,rfl,?_⟩
    simp -implicitDefEqProofs only[↓reduceIte,go_sem,Nat.reduceLT,Nat.reduceEqDiff,t8,t9,hw]
 ·rintro s H' ⟨ver,rfl,t3,t8,t9,t10⟩
  rw[List.take_length]at t3
  rw[List.take_length]
  simp -implicitDefEqProofs only[↓reduceIte,go_sem,Nat.reduceLT,Nat.reduceEqDiff,t3,t9,t10]
  refine aw.ret ?_
  simp -implicitDefEqProofs only[↓reduceIte,go_sem,Nat.reduceLT,List.take_of_length_le (show((cZ l).map dc).length≤(cZ l).length by rw[List.length_map];exact Nat.le_refl _)]
theorem GN{R:List (Nat×aq)}{p:aq→Prop}(h:∀r∈R,p r.2){v:aq}(hv:p v):∀r∈gH R v,p r.2:=by
 intro r hr
 unfold gH at hr
 split at hr
 ·rcases List.mem_append.1 hr with hr|hr
  ·exact h r (List.dropLast_subset R hr)
  ·simp at hr;rw[hr];exact hv
 ·rcases List.mem_append.1 hr with hr|hr
  ·exact h r hr
  ·simp at hr;rw[hr];exact hv
theorem uR{p:aq→Prop}:∀(l:List aq) (R:List (Nat×aq)),(∀v∈l,p v)→(∀r∈R,p r.2)→∀r∈l.foldl gH R,p r.2
 |[],R,_,h=>h
 |v::l,R,hl,h=>uR l _ (fun x hx=>hl x (by simp[hx])) (GN h (hl v (by simp)))
theorem mL{p:aq→Prop}{l:List aq}(h:∀v∈l,p v):∀r∈cZ l,p r.2:=uR l [] h (by simp)
def kd(r:Nat×aq):List Nat:=bp r.1++cW r.2
def eC(R:List (Nat×aq)):List Nat:=R.flatMap kd
def qQ(l:List aq)(k:Int):List Nat:=if aS l k=0 then eC (cZ l)else[]
theorem mE(R:List (Nat×aq))(r:Nat×aq):eC (R++[r])=eC R++kd r:=by simp[eC]
theorem ur(l:List aq)(k:Int)(hok:∀v∈l,eJ v.i)(H:aa)(hl:l.length≤1000000000):
  ag Tryz.prog 80 [.d (.list false (l.map aq.enc)),iA k] H (.ok (.bz [.d (.list false (aD (qQ l k))),iA (aS l k)])) H:=by
 by_cases hp:aS l k=0
 ·rw[show qQ l k=eC (cZ l)from if_pos hp]
  have hmay:=eu hp
  have h4:=dO hp
  have hrd:=fun H=>Es l false hl H
  have hRl:=ka l l.length
  have hRc:=kr l l.length
  rw[List.take_length]at hRl hRc
  have hRv:=mL (p:=fun v=>eJ v.i∧cA v=true) (l:=l) fun v hv=>⟨hok v hv,hmay v hv⟩
  generalize cZ l=R at*
  have hone:∀r∈R,(kd r).length≤1050:=fun r hr=>by
   have h1:=bD 10 r.1 (by have:=hRc r hr;omega)
   have h2:=dk (hRv r hr).1 (hRv r hr).2
   unfold kd
   rw[List.length_append];omega
  have hWb:∀k,k≤R.length→(eC (R.take k)).length≤k* 1050:=by
   intro k
   induction k with
   |zero=>intro _;simp[eC]
   |succ k ih=>
    intro hk
    have hk':k<R.length:=by omega
    rw[List.take_succ_eq_append_getElem hk',mE,List.length_append]
    have h1:=ih (by omega)
    have h2:=hone _ (List.getElem_mem hk')
    omega
  refine ag.aj (hint:=(fun _=>false)) Tryz.func80 (by kernel_rfl) rfl [4,5] (by kernel_rfl) (by decide) (by simp[Tryz.ntmps80]) ?_
  rw[Tryz.ntmps80]
  simp -implicitDefEqProofs only[↓reduceIte,go_sem,Nat.reduceLT,Nat.reduceEqDiff,reduceCtorEq]
  refine ae.ok (fq l k false _ (by omega)) ?_
  rw[hp]
  simp -implicitDefEqProofs only[↓reduceIte,go_sem,Nat.reduceLT,reduceCtorEq]
  refine ae.ok (hrd _) ?_
  simp -implicitDefEqProofs only[↓reduceIte,go_sem,Nat.reduceLT]
  refine bW (fun j s H'=>∃ver,H'=H++[.arr 5 1 ver (aD (eC (R.take j)))]∧s 7= .sl H.length ver 0 (eC (R.take j)).length∧s 19= .d (.list false (R.map dc))∧s 20=iA R.length∧s 21=iA j) R.length (by omega) (ay.db _ _ 7 5 1 (by decide) (by simp -implicitDefEqProofs only[↓reduceIte,go_sem,Nat.reduceLT,Nat.reduceEqDiff]) _) ?_ ?_ ?_
  ·refine⟨0,rfl,?_⟩
   simp -implicitDefEqProofs only[↓reduceIte,go_sem,Nat.reduceLT,Nat.reduceEqDiff]
   rfl
  ·rintro j s H' hj hw ⟨ver,rfl,t7,t19,t20,t21⟩
   have hx:=List.getElem?_eq_getElem hj
   have hm:=List.getElem_mem hj
   have hb:=hWb j (by omega)
   have hrl:=hone _ hm
   have hc:=hRc _ hm
   have hv:=hRv _ hm
   have e1:eC (R.take (j+1))=eC (R.take j)++(bp (R[j]).1++cW (R[j]).2):=by rw[List.take_succ_eq_append_getElem hj,mE,kd]
   unfold kd at hrl
   rw[List.length_append]at hrl
   rw[e1]
   generalize eC (R.take j)=B at*
   generalize R[j]=r at*
   obtain⟨m,w⟩:=r
   simp only at hrl hc hv⊢
   have hvd:=fun H=>fX w hv.1 hv.2 H
   have wm:=aK m (by omega)
   simp -implicitDefEqProofs only[↓reduceIte,go_sem,ah,au,Nat.reduceAdd,Nat.reduceLT,Nat.reduceEqDiff,t19,t20,t21,hj,hx,dc]
   refine ae.ok (hvd _) ?_
   simp -implicitDefEqProofs only[↓reduceIte,go_sem,ah,Nat.reduceAdd,Nat.reduceLT,Nat.reduceLeDiff,Nat.reduceEqDiff,t7,wm]
   refine ae.ok (oF m (by omega) _) ?_
   simp -implicitDefEqProofs only[↓reduceIte,go_sem,Nat.reduceLT,Nat.reduceEqDiff,aL,ai,dh]
   have hpm:=bD 10 m (by omega)
   refine⟨by omega,by omega,by omega,by omega,?_⟩
   simp -implicitDefEqProofs only[↓reduceIte,go_sem,Nat.reduceLT,t21]
   refine c9.cut [.arr 5 1 (ver+1+1) (aD (B++(bp m++cW w)))] [.box 165 4 0 1 [iA m,iA w.kind,iA w.i,sA w.s]] 1 rfl rfl (by simp -implicitDefEqProofs only[go_sem]) ?_
   refine⟨ver+1+1,rfl,?_⟩
   simp -implicitDefEqProofs only[↓reduceIte,go_sem,Nat.reduceAdd,Nat.reduceLT,Nat.reduceEqDiff,t19,t20,hw,Nat.add_assoc]
  ·rintro s H' ⟨ver,rfl,t7,t19,t20,t21⟩
   rw[show R.take R.length=R from List.take_length]at*
   simp -implicitDefEqProofs only[↓reduceIte,go_sem,Nat.reduceLT,Nat.reduceEqDiff,t7,t20,t21]
   refine aw.ret ?_
   simp -implicitDefEqProofs only[↓reduceIte,go_sem,Nat.reduceLT,Nat.reduceEqDiff,List.take_of_length_le (Nat.le_of_eq (ai (eC R)))]
 ·rw[show qQ l k=[]from if_neg hp]
  refine ag.bE (cs:=[.d (.v (.slice none 0 0)),iA (aS l k)]) ?_ (.cons .nil (.cons (.refl _) .nil))
  refine ag.aj (hint:=(fun _=>false)) Tryz.func80 (by kernel_rfl) rfl [4,5] (by kernel_rfl) (by decide) (by simp[Tryz.ntmps80]) ?_
  rw[Tryz.ntmps80]
  simp -implicitDefEqProofs only[↓reduceIte,go_sem,Nat.reduceLT,Nat.reduceEqDiff,reduceCtorEq]
  refine ae.ok (fq l k false _ (by omega)) ?_
  simp -implicitDefEqProofs only[↓reduceIte,go_sem,Nat.reduceLT,Nat.reduceEqDiff,hp]
  refine aw.aI ?_
  simp -implicitDefEqProofs only[↓reduceIte,go_sem,Nat.reduceLT,Nat.reduceEqDiff]
theorem jf(k:Int):∀(n:Nat) (b:List Nat),(aX k n b).2.2=0→(aX k n b).1.length=n
 |0,_,_=>rfl
 |n+1,b,h=>by
  unfold aX at h⊢
  split
  ·rename_i h1
   rw[if_pos h1]at h
   split
   ·rename_i h2
    simp[jf k n _ h2]
   ·rename_i h2
    rw[if_neg h2]at h
    exact absurd h h2
  ·rename_i h1
   rw[if_neg h1]at h
   exact absurd h h1
theorem jd(k:Int):∀(n:Nat) (b:List Nat),∃j,(aX k n b).2.1=b.drop j
 |0,b=>⟨0,rfl⟩
 |n+1,b=>by
  have nil:∃j,([]:List Nat)=b.drop j:=⟨b.length,by simp⟩
  unfold aX
  split
  ·split
   ·obtain⟨j,h⟩:=eA b k
    obtain⟨i,h2⟩:=jd k n (ej b k).2.1
    exact⟨j+i,by rw[h2,h,List.drop_drop]⟩
   ·exact nil
  ·exact nil
theorem yK{k:Int}{n:Nat}{b:List Nat}(h:(fQ k n b).2.2=0):fQ k n b=aX k n b∧(aX k n b).2.2=0∧iE (aX k n b).1:=by
 unfold fQ at h⊢
 split
 ·rename_i h1
  rw[if_pos h1]at h
  split
  ·rename_i h2
   exact⟨rfl,h1,h2⟩
  ·rename_i h2
   rw[if_neg h2]at h
   simp at h
 ·rename_i h1
  rw[if_neg h1]at h
  exact absurd h h1
noncomputable def qz(q:List aq×List Nat×Int)(n:Nat):List aq×List Nat×Int:=
 if q.2.2≠0 then([],[],q.2.2)
 else if bq q.2.1 n (dJ q.1.length)≠0 then([],[],bq q.2.1 n (dJ q.1.length))
 else if fV (bG q.2.1 n (dJ q.1.length)) q.1.length then(q.1,bG q.2.1 n (dJ q.1.length),0)else([],[],4)
noncomputable def cJ(b:List Nat)(n k:Int):List aq×List Nat×Int:=
 if bJ k=false then([],[],1)
 else if n<0 then([],[],2)
 else if 4096<n then([],[],2)
 else if(aQ b).2.2≠0 then([],[],(aQ b).2.2)
 else if n<(aQ b).1 then([],[],4)
 else qz (fQ k (aQ b).1 (b.drop (aQ b).2.1)) n.toNat
theorem xE(b:List Nat)(n k:Int)(hl:b.length≤140737488351232)(hb:∀c∈b,c<256)(H:aa):
  ag Tryz.prog 123 [.d (.list false (aD b)),iA n,iA k] H (.ok (.bz [.d (.list false ((cJ b n k).1.map aq.enc)),.d (.list false (us (cJ b n k).2.1)),iA (cJ b n k).2.2])) H:=by
 by_cases hk:bJ k=false
 ·rw[show cJ b n k=([],[],1)from if_pos hk]
  refine ag.bE (cs:=[.d (.v (.slice none 0 0)),.d (.v (.slice none 0 0)),iA 1]) ?_ (.cons .nil (.cons .nil (.cons (.refl _) .nil)))
  refine ag.aj (hint:=(fun _=>false)) Tryz.func123 (by kernel_rfl) rfl [6,7,8] (by kernel_rfl) (by decide) (by simp[Tryz.ntmps123]) ?_
  rw[Tryz.ntmps123]
  simp -implicitDefEqProofs only[↓reduceIte,go_sem,Nat.reduceLT,Nat.reduceEqDiff]
  refine ae.ok (b7 k _) ?_
  simp -implicitDefEqProofs only[↓reduceIte,go_sem,Nat.reduceLT,Nat.reduceEqDiff,Int.reduceEq,hk,Bool.false_eq_true]
  refine aw.aI ?_
  simp -implicitDefEqProofs only[↓reduceIte,go_sem,Nat.reduceLT,Nat.reduceEqDiff]
 rw[show cJ b n k=_ from if_neg hk]
 have hk1:bJ k=true:=by simpa using hk
 by_cases h1:n<0
 ·rw[if_pos h1]
  refine ag.bE (cs:=[.d (.v (.slice none 0 0)),.d (.v (.slice none 0 0)),iA 2]) ?_ (.cons .nil (.cons .nil (.cons (.refl _) .nil)))
  refine ag.aj (hint:=(fun _=>false)) Tryz.func123 (by kernel_rfl) rfl [6,7,8] (by kernel_rfl) (by decide) (by simp[Tryz.ntmps123]) ?_
  rw[Tryz.ntmps123]
  simp -implicitDefEqProofs only[↓reduceIte,go_sem,Nat.reduceLT,Nat.reduceEqDiff]
  refine ae.ok (b7 k _) ?_
  simp -implicitDefEqProofs only[↓reduceIte,go_sem,Nat.reduceLT,Nat.reduceEqDiff,hk1,h1]
  refine aw.aI ?_
  simp -implicitDefEqProofs only[↓reduceIte,go_sem,Nat.reduceLT,Nat.reduceEqDiff]
 rw[if_neg h1]
 by_cases h2:4096<n
 ·rw[if_pos h2]
  refine ag.bE (cs:=[.d (.v (.slice none 0 0)),.d (.v (.slice none 0 0)),iA 2]) ?_ (.cons .nil (.cons .nil (.cons (.refl _) .nil)))
  refine ag.aj (hint:=(fun _=>false)) Tryz.func123 (by kernel_rfl) rfl [6,7,8] (by kernel_rfl) (by decide) (by simp[Tryz.ntmps123]) ?_
  rw[Tryz.ntmps123]
  simp -implicitDefEqProofs only[↓reduceIte,go_sem,Nat.reduceLT,Nat.reduceEqDiff]
  refine ae.ok (b7 k _) ?_
  simp -implicitDefEqProofs only[↓reduceIte,go_sem,Nat.reduceLT,Nat.reduceEqDiff,reduceCtorEq,hk1,h1,h2]
  refine aw.aI ?_
  simp -implicitDefEqProofs only[↓reduceIte,go_sem,Nat.reduceLT,Nat.reduceEqDiff]
 rw[if_neg h2]
 obtain⟨N,rfl⟩:∃N:Nat,n=(N:Int):=⟨n.toNat,by omega⟩
 rw[Int.toNat_natCast]
 have h1f:((N:Int)<0)=False:=eq_false h1
 have h2f:((4096:Int)<(N:Int))=False:=eq_false h2
 have hgd:=fun H=>kg b false (by omega) hb H
 have hgl:=eO b
 have hglt:=fh b
 generalize aQ b=g at*
 obtain⟨many,j,e⟩:=g
 simp only at hgd hgl hglt⊢
 have hNu:=aK N (by omega)
 by_cases he:e=0
 ·subst he
  rw[if_neg (by simp)]
  by_cases h3:(N:Int)<(many:Int)
  ·rw[if_pos h3]
   refine ag.bE (cs:=[.d (.v (.slice none 0 0)),.d (.v (.slice none 0 0)),iA 4]) ?_ (.cons .nil (.cons .nil (.cons (.refl _) .nil)))
   refine ag.aj (hint:=(fun _=>false)) Tryz.func123 (by kernel_rfl) rfl [6,7,8] (by kernel_rfl) (by decide) (by simp[Tryz.ntmps123]) ?_
   rw[Tryz.ntmps123]
   simp -implicitDefEqProofs only[↓reduceIte,go_sem,Nat.reduceLT,Nat.reduceEqDiff]
   refine ae.ok (b7 k _) ?_
   simp -implicitDefEqProofs only[↓reduceIte,go_sem,Nat.reduceLT,Nat.reduceEqDiff,reduceCtorEq,hk1,h1f,h2f]
   refine ae.ok (hgd _) ?_
   simp -implicitDefEqProofs only[↓reduceIte,go_sem,Nat.reduceLT,Nat.reduceEqDiff,hNu,eq_true h3]
   refine aw.aI ?_
   simp -implicitDefEqProofs only[↓reduceIte,go_sem,Nat.reduceLT,Nat.reduceEqDiff]
  rw[if_neg h3]
  have h3f:((N:Int)<(many:Int))=False:=eq_false h3
  have hmw:IntKind.i64.wrap (many:Int)=(many:Int):=wrap64_in _ (by omega) (by omega)
  have hj0:((0:Int)≤(j:Int))=True:=eq_true (by omega)
  have hdb:∀c∈b.drop j,c<256:=fun c hc=>hb c (List.mem_of_mem_drop hc)
  have hrd:=fun H=>A1 (b.drop j) many k (by omega) (by rw[List.length_drop];omega) hdb H
  have hro:=yK (k:=k) (n:=many) (b:=b.drop j)
  have hrl:=jf k many (b.drop j)
  obtain⟨i,hrs⟩:=jd k many (b.drop j)
  have hbt:(aD b).take b.length=aD b:=List.take_of_length_le (by rw[ai];exact Nat.le_refl _)
  generalize aX k many (b.drop j)=q2 at*
  generalize fQ k many (b.drop j)=q at*
  obtain⟨W,r,f⟩:=q
  simp only at hrd hro
  by_cases hf:f=0
  ·subst hf
   obtain⟨e1,e2,e3⟩:=hro rfl
   subst e1
   have hW:W.length=many:=hrl rfl
   have hrs':r=(b.drop j).drop i:=hrs
   have hrb:∀c∈r,c<256:=fun c hc=>hdb c (List.mem_of_mem_drop (hrs'▸hc))
   have hrlen:r.length≤b.length:=by rw[hrs',List.length_drop,List.length_drop];omega
   have hwl:=og (n:=W.length) (by omega)
   have hun:=fun H=>ml r N (dJ W.length) false (by omega) hrb (by omega) (by omega) H
   have hT:qz (W,r,0) N=if bq r N (dJ W.length)≠0 then([],[],bq r N (dJ W.length))else if fV (bG r N (dJ W.length)) W.length then(W,bG r N (dJ W.length),0)else([],[],4):=rfl
   have hdw:=fun H=>qu W.length (by omega) H
   have hCl:=cr r N (dJ W.length)
   have hClt:=gp r N (dJ W.length) (by omega)
   unfold eF at hun
   rw[hT]
   generalize dJ W.length=wd at*
   generalize bG r N wd=C at*
   generalize bq r N wd=z at*
   by_cases hz:z=0
   ·subst hz
    rw[if_neg (by simp)]
    have hus:=fun H=>DZ C W.length H (by omega) (by omega) hClt
    rw[if_pos rfl]at hun
    cases hu:fV C W.length with
    |true=>
     rw[hu]at hus
     refine ag.aj (hint:=(fun _=>false)) Tryz.func123 (by kernel_rfl) rfl [6,7,8] (by kernel_rfl) (by decide) (by simp[Tryz.ntmps123]) ?_
     rw[Tryz.ntmps123]
     simp -implicitDefEqProofs only[↓reduceIte,go_sem,Nat.reduceLT,Nat.reduceEqDiff]
     refine ae.ok (b7 k _) ?_
     simp -implicitDefEqProofs only[↓reduceIte,go_sem,Nat.reduceLT,Nat.reduceEqDiff,reduceCtorEq,hk1,h1f,h2f]
     refine ae.ok (hgd _) ?_
     simp -implicitDefEqProofs only[↓reduceIte,go_sem,Nat.reduceLT,Nat.reduceEqDiff,reduceCtorEq,hNu,h3f,aL,ai,hj0,hbt,cS,hmw]
     refine⟨by omega,ae.ok (hrd _) ?_⟩
     simp -implicitDefEqProofs only[↓reduceIte,go_sem,Nat.reduceLT,Nat.reduceEqDiff,List.length_map]
     refine ae.ok (hdw _) ?_
     simp -implicitDefEqProofs only[↓reduceIte,go_sem,Nat.reduceLT,Nat.reduceEqDiff]
     refine ae.ok (hun _) ?_
     simp -implicitDefEqProofs only[↓reduceIte,go_sem,Nat.reduceLT,Nat.reduceEqDiff,List.length_map]
     refine ae.ok (hus _) ?_
     simp -implicitDefEqProofs only[↓reduceIte,go_sem,Nat.reduceLT,Nat.reduceEqDiff]
     refine aw.aI ?_
     simp -implicitDefEqProofs only[↓reduceIte,go_sem,Nat.reduceLT,Nat.reduceEqDiff]
    |false=>
     rw[hu]at hus
     rw[if_neg (by simp)]
     refine ag.bE (cs:=[.d (.v (.slice none 0 0)),.d (.v (.slice none 0 0)),iA 4]) ?_ (.cons .nil (.cons .nil (.cons (.refl _) .nil)))
     refine ag.aj (hint:=(fun _=>false)) Tryz.func123 (by kernel_rfl) rfl [6,7,8] (by kernel_rfl) (by decide) (by simp[Tryz.ntmps123]) ?_
     rw[Tryz.ntmps123]
     simp -implicitDefEqProofs only[↓reduceIte,go_sem,Nat.reduceLT,Nat.reduceEqDiff]
     refine ae.ok (b7 k _) ?_
     simp -implicitDefEqProofs only[↓reduceIte,go_sem,Nat.reduceLT,Nat.reduceEqDiff,reduceCtorEq,hk1,h1f,h2f]
     refine ae.ok (hgd _) ?_
     simp -implicitDefEqProofs only[↓reduceIte,go_sem,Nat.reduceLT,Nat.reduceEqDiff,reduceCtorEq,hNu,h3f,aL,ai,hj0,hbt,cS,hmw]
     refine⟨by omega,ae.ok (hrd _) ?_⟩
     simp -implicitDefEqProofs only[↓reduceIte,go_sem,Nat.reduceLT,Nat.reduceEqDiff,List.length_map]
     refine ae.ok (hdw _) ?_
     simp -implicitDefEqProofs only[↓reduceIte,go_sem,Nat.reduceLT,Nat.reduceEqDiff]
     refine ae.ok (hun _) ?_
     simp -implicitDefEqProofs only[↓reduceIte,go_sem,Nat.reduceLT,Nat.reduceEqDiff,List.length_map]
     refine ae.ok (hus _) ?_
     simp -implicitDefEqProofs only[↓reduceIte,go_sem,Nat.reduceLT]
     refine aw.aI ?_
     simp -implicitDefEqProofs only[↓reduceIte,go_sem,Nat.reduceLT,Nat.reduceEqDiff]
   ·rw[if_pos hz]
    rw[if_neg hz]at hun
    refine ag.bE (cs:=[.d (.v (.slice none 0 0)),.d (.v (.slice none 0 0)),iA z]) ?_ (.cons .nil (.cons .nil (.cons (.refl _) .nil)))
    refine ag.aj (hint:=(fun _=>false)) Tryz.func123 (by kernel_rfl) rfl [6,7,8] (by kernel_rfl) (by decide) (by simp[Tryz.ntmps123]) ?_
    rw[Tryz.ntmps123]
    simp -implicitDefEqProofs only[↓reduceIte,go_sem,Nat.reduceLT,Nat.reduceEqDiff]
    refine ae.ok (b7 k _) ?_
    simp -implicitDefEqProofs only[↓reduceIte,go_sem,Nat.reduceLT,Nat.reduceEqDiff,reduceCtorEq,hk1,h1f,h2f]
    refine ae.ok (hgd _) ?_
    simp -implicitDefEqProofs only[↓reduceIte,go_sem,Nat.reduceLT,Nat.reduceEqDiff,reduceCtorEq,hNu,h3f,aL,ai,hj0,hbt,cS,hmw]
    refine⟨by omega,ae.ok (hrd _) ?_⟩
    simp -implicitDefEqProofs only[↓reduceIte,go_sem,Nat.reduceLT,Nat.reduceEqDiff,List.length_map]
    refine ae.ok (hdw _) ?_
    simp -implicitDefEqProofs only[↓reduceIte,go_sem,Nat.reduceLT,Nat.reduceEqDiff]
    refine ae.ok (hun _) ?_
    simp -implicitDefEqProofs only[↓reduceIte,go_sem,Nat.reduceLT,Nat.reduceEqDiff,hz]
    refine aw.aI ?_
    simp -implicitDefEqProofs only[↓reduceIte,go_sem,Nat.reduceLT,Nat.reduceEqDiff]
  ·rw[show qz (W,r,f) N=([],[],f)from if_pos hf]
   refine ag.bE (cs:=[.d (.v (.slice none 0 0)),.d (.v (.slice none 0 0)),iA f]) ?_ (.cons .nil (.cons .nil (.cons (.refl _) .nil)))
   refine ag.aj (hint:=(fun _=>false)) Tryz.func123 (by kernel_rfl) rfl [6,7,8] (by kernel_rfl) (by decide) (by simp[Tryz.ntmps123]) ?_
   rw[Tryz.ntmps123]
   simp -implicitDefEqProofs only[↓reduceIte,go_sem,Nat.reduceLT,Nat.reduceEqDiff]
   refine ae.ok (b7 k _) ?_
   simp -implicitDefEqProofs only[↓reduceIte,go_sem,Nat.reduceLT,Nat.reduceEqDiff,reduceCtorEq,hk1,h1f,h2f]
   refine ae.ok (hgd _) ?_
   simp -implicitDefEqProofs only[↓reduceIte,go_sem,Nat.reduceLT,Nat.reduceEqDiff,reduceCtorEq,hNu,h3f,aL,ai,hj0,hbt,cS,hmw]
   refine⟨by omega,ae.ok (hrd _) ?_⟩
   simp -implicitDefEqProofs only[↓reduceIte,go_sem,Nat.reduceLT,Nat.reduceEqDiff,hf]
   refine aw.aI ?_
   simp -implicitDefEqProofs only[↓reduceIte,go_sem,Nat.reduceLT,Nat.reduceEqDiff]
 ·rw[if_pos he]
  refine ag.bE (cs:=[.d (.v (.slice none 0 0)),.d (.v (.slice none 0 0)),iA e]) ?_ (.cons .nil (.cons .nil (.cons (.refl _) .nil)))
  refine ag.aj (hint:=(fun _=>false)) Tryz.func123 (by kernel_rfl) rfl [6,7,8] (by kernel_rfl) (by decide) (by simp[Tryz.ntmps123]) ?_
  rw[Tryz.ntmps123]
  simp -implicitDefEqProofs only[↓reduceIte,go_sem,Nat.reduceLT,Nat.reduceEqDiff]
  refine ae.ok (b7 k _) ?_
  simp -implicitDefEqProofs only[↓reduceIte,go_sem,Nat.reduceLT,Nat.reduceEqDiff,reduceCtorEq,hk1,h1f,h2f]
  refine ae.ok (hgd _) ?_
  simp -implicitDefEqProofs only[↓reduceIte,go_sem,Nat.reduceLT,Nat.reduceEqDiff,he]
  refine aw.aI ?_
  simp -implicitDefEqProofs only[↓reduceIte,go_sem,Nat.reduceLT,Nat.reduceEqDiff]
def fe(W:List aq)(C:List Nat):List aq:=C.map fun c=>W.getD c zV
noncomputable def fT(b:List Nat)(n k:Int):List aq×Int:=if(cJ b n k).2.2=0 then(fe (cJ b n k).1 (cJ b n k).2.1,0)else([],(cJ b n k).2.2)
theorem rz{C:List Nat}{n:Nat}(h:fV C n=true):∀c∈C,c<n:=fun c hc=>by
 unfold fV at h
 rw[Bool.and_eq_true,List.all_eq_true]at h
 simpa using h.1 c ((fM C c).2 hc)
theorem nw{b:List Nat}{n k:Int}{W:List aq}{C:List Nat}(h:cJ b n k=(W,C,0)):
  ∃(N many j i:Nat),n=(N:Int)∧N≤4096∧bJ k=true∧aQ b=(many,j,0)∧many≤N∧aX k many (b.drop j)=(W,(b.drop j).drop i,0)∧iE W∧W.length=many∧
   bq ((b.drop j).drop i) N (dJ W.length)=0∧C=bG ((b.drop j).drop i) N (dJ W.length)∧fV C W.length=true:=by
 unfold cJ at h
 split at h
 ·simp at h
 rename_i hk
 split at h
 ·simp at h
 rename_i h1
 split at h
 ·simp at h
 rename_i h2
 split at h
 ·rename_i he
  simp only[Prod.mk.injEq]at h
  exact absurd h.2.2 he
 rename_i he
 split at h
 ·simp at h
 rename_i h3
 rcases hg:aQ b with⟨many,j,e⟩
 rw[hg]at h he h3
 simp only at h he h3
 have he':e=0:=by simpa using he
 subst he'
 obtain⟨i,hrs⟩:=jd k many (b.drop j)
 have hro:=yK (k:=k) (n:=many) (b:=b.drop j)
 have hrl:=jf k many (b.drop j)
 rcases hq:fQ k many (b.drop j)with⟨W',r,f⟩
 rw[hq]at h hro
 simp only at hro
 unfold qz at h
 split at h
 ·rename_i hf
  simp only[Prod.mk.injEq]at h
  exact absurd h.2.2 hf
 rename_i hf
 have hf':f=0:=by simpa using hf
 subst hf'
 obtain⟨e1,e2,e3⟩:=hro rfl
 rw[←e1]at e3 hrs hrl
 simp only at h hrs
 split at h
 ·rename_i hz
  simp only[Prod.mk.injEq]at h
  exact absurd h.2.2 hz
 rename_i hz
 split at h
 ·rename_i hu
  simp only[Prod.mk.injEq]at h
  obtain⟨rfl,rfl,_⟩:=h
  have hW:W'.length=many:=hrl rfl
  subst hrs
  refine⟨n.toNat,many,j,i,by omega,by omega,by simpa using hk,rfl,by omega,e1.symm,e3,hW,by simpa using hz,rfl,hu⟩
 ·simp at h
theorem yU(b:List Nat)(n k:Int)(hl:b.length≤140737488351232)(hb:∀c∈b,c<256)(H:aa):
  ag Tryz.prog 86 [.d (.list false (aD b)),iA n,iA k] H (.ok (.bz [.d (.list false ((fT b n k).1.map aq.enc)),iA (fT b n k).2])) H:=by
 have htd:=fun H=>xE b n k hl hb H
 have hok:=fun W C=>nw (b:=b) (n:=n) (k:=k) (W:=W) (C:=C)
 unfold fT
 generalize cJ b n k=t at*
 obtain⟨W,C,e⟩:=t
 simp only at htd hok⊢
 by_cases he:e=0
 ·subst he
  obtain⟨N,many,j,i,rfl,hN,_,_,hmN,_,_,hW,_,hC,hu⟩:=hok W C rfl
  have hlt:=rz hu
  have hCl:C.length=N:=by rw[hC,cr]
  clear hok hC hu
  rw[if_pos rfl]
  refine ag.aj (hint:=(fun _=>false)) Tryz.func86 (by kernel_rfl) rfl [6,7] (by kernel_rfl) (by decide) (by simp[Tryz.ntmps86]) ?_
  rw[Tryz.ntmps86]
  simp -implicitDefEqProofs only[↓reduceIte,go_sem,Nat.reduceLT,Nat.reduceEqDiff,reduceCtorEq]
  refine ae.ok (htd _) ?_
  simp -implicitDefEqProofs only[↓reduceIte,go_sem,Nat.reduceLT,Nat.reduceEqDiff]
  refine bW (fun i s H'=>H'=H++[.arr 25 3 i ((fe W (C.take i)).map aq.enc)]∧s 8= .d (.list false (W.map aq.enc))∧s 11= .sl H.length i 0 i∧s 25= .d (.list false (us C))∧s 26=iA C.length∧s 27=iA i) C.length (by omega) (ay.db _ _ 11 25 3 (by decide) (by simp -implicitDefEqProofs only[↓reduceIte,go_sem,Nat.reduceLT,Nat.reduceEqDiff]) _) ?_ ?_ ?_
  ·refine⟨rfl,?_⟩
   simp -implicitDefEqProofs only[↓reduceIte,go_sem,Nat.reduceLT,Nat.reduceEqDiff,cT]
  ·rintro i s H' hi hw ⟨rfl,t8,t11,t25,t26,t27⟩
   have hx:=iO C i hi
   have hcl:=hlt _ (List.getElem_mem hi)
   have hwg:=List.getElem?_eq_getElem hcl
   have e1:fe W (C.take (i+1))=fe W (C.take i)++[W[C[i]]]:=by
    unfold fe
    rw[List.take_succ_eq_append_getElem hi,List.map_append]
    simp[List.getD,hcl]
   have hpl:(fe W (C.take i)).length=i:=by unfold fe;rw[List.length_map,List.length_take];omega
   rw[e1]
   generalize fe W (C.take i)=L at*
   generalize W[C[i]]=v at*
   generalize C[i]=c at*
   have hc0:((0:Int)≤(c:Int))=True:=eq_true (by omega)
   have hsn:L.map aq.enc++[[D.v (.int .i64 v.kind),D.v (.int .i64 v.i),D.v (.string v.s)]]=(L++[v]).map aq.enc:=by simp[aq.enc]
   simp -implicitDefEqProofs only[↓reduceIte,go_sem,Nat.reduceAdd,Nat.reduceLT,Nat.reduceLeDiff,Nat.reduceEqDiff,t8,t11,t25,t26,t27,hi,hx,hwg,hc0,List.length_map,hpl,hsn,aq.enc]
   refine⟨by omega,by omega,?_⟩
   refine c9.same ⟨rfl,?_⟩
   simp -implicitDefEqProofs only[↓reduceIte,go_sem,Nat.reduceLT,Nat.reduceEqDiff,t8,t25,t26,hw]
  ·rintro s H' ⟨rfl,t8,t11,t25,t26,t27⟩
   simp -implicitDefEqProofs only[↓reduceIte,go_sem,Nat.reduceLT,Nat.reduceEqDiff,t11,t26,t27]
   refine aw.ret ?_
   rw[List.take_length]
   simp -implicitDefEqProofs only[↓reduceIte,go_sem,Nat.reduceLT,Nat.reduceEqDiff,List.take_of_length_le (show((fe W C).map aq.enc).length≤C.length by rw[List.length_map,fe,List.length_map];omega)]
 ·rw[if_neg he]
  refine ag.bE (cs:=[.d (.v (.slice none 0 0)),iA e]) ?_ (.cons .nil (.cons (.refl _) .nil))
  refine ag.aj (hint:=(fun _=>false)) Tryz.func86 (by kernel_rfl) rfl [6,7] (by kernel_rfl) (by decide) (by simp[Tryz.ntmps86]) ?_
  rw[Tryz.ntmps86]
  simp -implicitDefEqProofs only[↓reduceIte,go_sem,Nat.reduceLT,Nat.reduceEqDiff,reduceCtorEq]
  refine ae.ok (htd _) ?_
  simp -implicitDefEqProofs only[↓reduceIte,go_sem,Nat.reduceLT,Nat.reduceEqDiff,he]
  refine aw.aI ?_
  simp -implicitDefEqProofs only[↓reduceIte,go_sem,Nat.reduceLT,Nat.reduceEqDiff]
def jx(id:Nat)(k:Int):List (Int×AV):=
 [(1,.agg [.fn 75 [.ptr id 0 0 0],.fn 77 [.ptr id 0 0 0]]),(2,.agg [.fn 79 [.ptr id 0 0 0],.fn 81 [.ptr id 0 0 0]]),(3,.agg [.fn 83 [.ptr id 0 0 0],.fn 85 [.ptr id 0 0 0]])]++
 if k=1 then[(4,.agg [.fn 87 [],.fn 88 []])]else[]
theorem gB(k:Int)(H:aa):ag Tryz.prog 46 [iA k] H (.ok (.mp (H.length+1))) (H++[kB k,.mp .i64 (jx H.length k)]):=by
 by_cases h:k=1
 ·subst h
  have hM:jx H.length 1=[(1,.agg [.fn 75 [.ptr H.length 0 0 0],.fn 77 [.ptr H.length 0 0 0]]),(2,.agg [.fn 79 [.ptr H.length 0 0 0],.fn 81 [.ptr H.length 0 0 0]]),(3,.agg [.fn 83 [.ptr H.length 0 0 0],.fn 85 [.ptr H.length 0 0 0]]),(4,.agg [.fn 87 [],.fn 88 []])]:=by unfold jx;rw[if_pos rfl];rfl
  rw[hM]
  refine ag.aj (hint:=(fun _=>false)) Tryz.func46 (by kernel_rfl) rfl [2] (by kernel_rfl) (by decide) (by simp[Tryz.ntmps46]) ?_
  rw[Tryz.ntmps46]
  simp -implicitDefEqProofs only[↓reduceIte,go_sem,ah,Nat.reduceAdd,Nat.reduceLT,Nat.reduceLeDiff,Nat.reduceEqDiff,Int.reduceEq,my,iz]
  unfold kB
  exact⟨_,ay.refl _ _,by simp -implicitDefEqProofs only[↓reduceIte,go_sem,Nat.reduceLT]⟩
 ·have hM:jx H.length k=[(1,.agg [.fn 75 [.ptr H.length 0 0 0],.fn 77 [.ptr H.length 0 0 0]]),(2,.agg [.fn 79 [.ptr H.length 0 0 0],.fn 81 [.ptr H.length 0 0 0]]),(3,.agg [.fn 83 [.ptr H.length 0 0 0],.fn 85 [.ptr H.length 0 0 0]])]:=by unfold jx;rw[if_neg h];rfl
  rw[hM]
  refine ag.aj (hint:=(fun _=>false)) Tryz.func46 (by kernel_rfl) rfl [2] (by kernel_rfl) (by decide) (by simp[Tryz.ntmps46]) ?_
  rw[Tryz.ntmps46]
  simp -implicitDefEqProofs only[↓reduceIte,go_sem,ah,Nat.reduceAdd,Nat.reduceLT,Nat.reduceLeDiff,Nat.reduceEqDiff,Int.reduceEq,my,iz,h]
  unfold kB
  exact⟨_,ay.refl _ _,by simp -implicitDefEqProofs only[↓reduceIte,go_sem,Nat.reduceLT]⟩
theorem ug(l:List aq)(k:Int)(hok:∀v∈l,eJ v.i)(hl:l.length≤1000000000)(G:aa)(id:Nat)(h:G[id]?=some (kB k)):
  ag Tryz.prog 75 [.d (.list false (l.map aq.enc)),.ptr id 0 0 0] G (.ok (.bz [.d (.list false (aD (iI l k))),iA (aS l k)])) G:=by
 have hd:=fun H=>qW l k hok H (by omega)
 unfold kB at h
 refine ag.aj (hint:=(fun _=>false)) Tryz.func75 (by kernel_rfl) rfl [3,4] (by kernel_rfl) (by decide) (by simp[Tryz.ntmps75]) ?_
 rw[Tryz.ntmps75]
 simp -implicitDefEqProofs only[↓reduceIte,go_sem,ah,Nat.reduceLT,Nat.reduceEqDiff,reduceCtorEq,h]
 refine ae.ok (hd _) ?_
 simp -implicitDefEqProofs only[↓reduceIte,go_sem,Nat.reduceLT,Nat.reduceEqDiff]
 refine aw.aI ?_
 simp -implicitDefEqProofs only[↓reduceIte,go_sem,Nat.reduceLT,Nat.reduceEqDiff]
theorem wX(l:List aq)(k:Int)(hok:∀v∈l,eJ v.i)(hl:l.length≤1000000000)(G:aa)(id:Nat)(h:G[id]?=some (kB k)):
  ag Tryz.prog 83 [.d (.list false (l.map aq.enc)),.ptr id 0 0 0] G (.ok (.bz [.d (.list false (aD (ju l k))),iA (aS l k)])) G:=by
 have hd:=fun H=>rM l k hok H (by omega)
 unfold kB at h
 refine ag.aj (hint:=(fun _=>false)) Tryz.func83 (by kernel_rfl) rfl [3,4] (by kernel_rfl) (by decide) (by simp[Tryz.ntmps83]) ?_
 rw[Tryz.ntmps83]
 simp -implicitDefEqProofs only[↓reduceIte,go_sem,ah,Nat.reduceLT,Nat.reduceEqDiff,reduceCtorEq,h]
 refine ae.ok (hd _) ?_
 simp -implicitDefEqProofs only[↓reduceIte,go_sem,Nat.reduceLT,Nat.reduceEqDiff]
 refine aw.aI ?_
 simp -implicitDefEqProofs only[↓reduceIte,go_sem,Nat.reduceLT,Nat.reduceEqDiff]
theorem zj(l:List aq)(k:Int)(hok:∀v∈l,eJ v.i)(hl:l.length≤1000000000)(G:aa)(id:Nat)(h:G[id]?=some (kB k)):
  ag Tryz.prog 79 [.d (.list false (l.map aq.enc)),.ptr id 0 0 0] G (.ok (.bz [.d (.list false (aD (qQ l k))),iA (aS l k)])) G:=by
 have hd:=fun H=>ur l k hok H (by omega)
 unfold kB at h
 refine ag.aj (hint:=(fun _=>false)) Tryz.func79 (by kernel_rfl) rfl [3,4] (by kernel_rfl) (by decide) (by simp[Tryz.ntmps79]) ?_
 rw[Tryz.ntmps79]
 simp -implicitDefEqProofs only[↓reduceIte,go_sem,ah,Nat.reduceLT,Nat.reduceEqDiff,reduceCtorEq,h]
 refine ae.ok (hd _) ?_
 simp -implicitDefEqProofs only[↓reduceIte,go_sem,Nat.reduceLT,Nat.reduceEqDiff]
 refine aw.aI ?_
 simp -implicitDefEqProofs only[↓reduceIte,go_sem,Nat.reduceLT,Nat.reduceEqDiff]
theorem ub(b:List Nat)(n k:Int)(hl:b.length≤140737488351232)(hb:∀c∈b,c<256)(G:aa)(id:Nat)(h:G[id]?=some (kB k)):
  ag Tryz.prog 77 [.d (.list false (aD b)),iA n,.ptr id 0 0 0] G (.ok (.bz [.d (.list false ((de b n k).1.map aq.enc)),iA (de b n k).2])) G:=by
 have hd:=fun H=>vM b n k hl hb H
 unfold kB at h
 refine ag.aj (hint:=(fun _=>false)) Tryz.func77 (by kernel_rfl) rfl [5,6] (by kernel_rfl) (by decide) (by simp[Tryz.ntmps77]) ?_
 rw[Tryz.ntmps77]
 simp -implicitDefEqProofs only[↓reduceIte,go_sem,ah,Nat.reduceLT,Nat.reduceEqDiff,reduceCtorEq,h]
 refine ae.ok (hd _) ?_
 simp -implicitDefEqProofs only[↓reduceIte,go_sem,Nat.reduceLT,Nat.reduceEqDiff]
 refine aw.aI ?_
 simp -implicitDefEqProofs only[↓reduceIte,go_sem,Nat.reduceLT,Nat.reduceEqDiff]
theorem vL(b:List Nat)(n k:Int)(hl:b.length≤140737488351232)(hb:∀c∈b,c<256)(G:aa)(id:Nat)(h:G[id]?=some (kB k)):
  ag Tryz.prog 85 [.d (.list false (aD b)),iA n,.ptr id 0 0 0] G (.ok (.bz [.d (.list false ((fT b n k).1.map aq.enc)),iA (fT b n k).2])) G:=by
 have hd:=fun H=>yU b n k hl hb H
 unfold kB at h
 refine ag.aj (hint:=(fun _=>false)) Tryz.func85 (by kernel_rfl) rfl [5,6] (by kernel_rfl) (by decide) (by simp[Tryz.ntmps85]) ?_
 rw[Tryz.ntmps85]
 simp -implicitDefEqProofs only[↓reduceIte,go_sem,ah,Nat.reduceLT,Nat.reduceEqDiff,reduceCtorEq,h]
 refine ae.ok (hd _) ?_
 simp -implicitDefEqProofs only[↓reduceIte,go_sem,Nat.reduceLT,Nat.reduceEqDiff]
 refine aw.aI ?_
 simp -implicitDefEqProofs only[↓reduceIte,go_sem,Nat.reduceLT,Nat.reduceEqDiff]
def sN(a b:aq):Nat:=fj (IntKind.i64.wrap (b.i-a.i))
def bT(l:List aq):List Nat:=List.zipWith sN l l.tail
theorem fo(l:List aq):(bT l).length=l.length-1:=by simp[bT]
theorem kR(l:List aq)(k:Nat)(h:k+1<l.length):(bT l)[k]?=some (sN l[k] l[k+1]):=by
 simp[bT,List.getElem?_zipWith,List.getElem?_tail,h,show k<l.length by omega]
theorem HT(a b:aq):sN a b<18446744073709551616:=gM (dY _).1 (dY _).2
theorem j9(l:List aq):∀n∈bT l,n<18446744073709551616:=by
 intro n hn
 obtain⟨k,hk⟩:=List.getElem?_of_mem hn
 have hlt:=(List.getElem?_eq_some_iff.1 hk).1
 rw[fo]at hlt
 rw[kR l k (by omega)]at hk
 cases hk
 exact HT _ _
theorem tC(l:List aq)(k:Nat)(h:k+1<l.length):(bT l).take (k+1)=(bT l).take k++[sN l[k] l[k+1]]:=by
 rw[List.take_add_one,kR l k h];rfl
theorem BN(l:List aq)(nn:Bool)(H:aa)(hl:l.length≤1000000000000):ag Tryz.prog 124 [.d (.list nn (l.map aq.enc))] H (.ok (.d (.list false (us (bT l))))) H:=by
 have hsl:=fo l
 refine ag.aj (hint:=(fun _=>false)) Tryz.func124 (by kernel_rfl) rfl [2] (by kernel_rfl) (by decide) (by simp[Tryz.ntmps124]) ?_
 rw[Tryz.ntmps124]
 simp -implicitDefEqProofs only[go_sem]
 refine aP (fun k s H'=>H'=H++[.arr 49 1 k (us ((bT l).take k))]∧s 0= .d (.list nn (l.map aq.enc))∧s 3= .sl H.length k 0 k∧s 4=iA ((k:Int)+1)) (l.length-1) (by omega) (ay.db _ _ 3 49 1 (by decide) (by simp -implicitDefEqProofs only[↓reduceIte,go_sem,Nat.reduceLT,Nat.reduceEqDiff]) _) ?_ ?_ ?_
 ·refine⟨?_,?_⟩
  ·simp -implicitDefEqProofs only[go_sem,List.take_zero,Gw]
  ·simp -implicitDefEqProofs only[↓reduceIte,go_sem,Nat.reduceLT,Nat.reduceEqDiff,Int.reduceAdd,reduceCtorEq]
 ·rintro k s H' hk hw ⟨rfl,t0,t3,t4⟩
  have hk1:k<l.length:=by omega
  have hk2:k+1<l.length:=by omega
  have hx:=List.getElem?_eq_getElem hk1
  have hy:=List.getElem?_eq_getElem hk2
  have hs:=tC l k hk2
  generalize l[k]=x at hx hs
  generalize l[k+1]=y at hy hs
  have hlen:((bT l).take k).length=k:=by simp;omega
  have hw2:IntKind.i64.wrap ((k:Int)+1-1)=(k:Int):=by rw[wrap64_in _ (by omega) (by omega)];omega
  have hw3:IntKind.i64.wrap ((k:Int)+1+1)=(k:Int)+1+1:=wrap64_in _ (by omega) (by omega)
  have hc:((k:Int)+1<(l.length:Int))=True:=eq_true (by omega)
  have ht:((k:Int)+1).toNat=k+1:=by omega
  have hp:(0≤(k:Int)+1)=True:=eq_true (by omega)
  generalize (bT l).take k=L at hs hlen
  simp -implicitDefEqProofs only[↓reduceIte,go_sem,Nat.reduceLT,Nat.reduceEqDiff,reduceCtorEq,t0,t4,hc]
  refine ig 15 K.mixed (by kernel_rfl) (by kernel_rfl) ?_
  simp -implicitDefEqProofs only[↓reduceIte,go_sem,Nat.reduceAdd,Nat.reduceLT,Nat.reduceLeDiff,Nat.reduceEqDiff,reduceCtorEq,t0,t3,t4,hw2,hx,hy,ht,hp,aq.enc]
  refine ae.ok (ti _ (dY _).1 (dY _).2 _) ?_
  simp -implicitDefEqProofs only[↓reduceIte,go_sem,Nat.reduceLT,Nat.reduceLeDiff,Nat.reduceEqDiff,cT,hlen,t4,mD]
  refine⟨by omega,by omega,c9.same ⟨?_,?_⟩⟩
  ·rw[hs];rfl
  ·simp -implicitDefEqProofs only[↓reduceIte,go_sem,Nat.reduceLT,Nat.reduceEqDiff,reduceCtorEq,t0,hw3]
   trace_state
 ·rintro s H' ⟨rfl,t0,t3,t4⟩
  have hc:(((l.length-1:Nat):Int)+1<(l.length:Int))=False:=eq_false (by omega)
  simp -implicitDefEqProofs only[↓reduceIte,go_sem,Nat.reduceLT,Nat.reduceEqDiff,reduceCtorEq,t0,t3,t4,hc]
  refine aw.ret ?_
  simp -implicitDefEqProofs only[↓reduceIte,go_sem,Nat.reduceLT,bQ,cT,hsl]
def iN(l:List aq):List Nat:=match l with
 |[]=>[]
 |v::_=>bp (fj v.i)++bp (cw (bT l))++cF (bT l) (cw (bT l))
def jZ(l:List aq):AV:=if aS l 1=0∧l≠[]then .bz [.d (.list false (aD (iN l))),iA 0]else .bz [.d (.v (.slice none 0 0)),iA (aS l 1)]
theorem zF(l:List aq)(hok:∀v∈l,eJ v.i)(nn:Bool)(H:aa)(hl:l.length≤1000000000000):ag Tryz.prog 87 [.d (.list nn (l.map aq.enc))] H (.ok (jZ l)) H:=by
 have hbad:∀b:Bool,b=true∨b=false:=by decide
 refine ag.aj (hint:=(fun _=>false)) Tryz.func87 (by kernel_rfl) rfl [2,3] (by kernel_rfl) (by decide) (by simp[Tryz.ntmps87]) ?_
 rw[Tryz.ntmps87]
 simp -implicitDefEqProofs only[↓reduceIte,go_sem,Nat.reduceLT,reduceCtorEq]
 refine ae.ok (fq l 1 nn _ (by omega)) ?_
 by_cases h1:aS l 1=0
 ·cases l with
  |nil=>
   simp -implicitDefEqProofs only[↓reduceIte,go_sem,Nat.reduceLT,Nat.reduceEqDiff,reduceCtorEq,h1]
   refine aw.aI ?_
   simp -implicitDefEqProofs only[↓reduceIte,go_sem,Nat.reduceLT,Nat.reduceEqDiff,jZ,h1,Ne,not_true,and_false]
  |cons v r=>
   have hs:=fo (v::r)
   have h4:=dO h1
   have hl0:(((v::r).length:Nat):Int)=0↔False:=by simp;omega
   have hll:=hok v (by simp)
   have hss:=j9 (v::r)
   simp -implicitDefEqProofs only[↓reduceIte,go_sem,Nat.reduceLT,Nat.reduceEqDiff,reduceCtorEq,h1,show(((r.length:Nat):Int)+1=0)=False from eq_false (by omega)]
   refine ae.ok (BN (v::r) nn _ hl) ?_
   simp -implicitDefEqProofs only[↓reduceIte,go_sem,Nat.reduceLT]
   refine ae.ok (nQ _ false _ (by omega) hss) ?_
   have hw64:=jg hss
   have hfit:=jR (l:=bT (v::r))
   have hzl:=gM hll.1 hll.2
   have hb:iN (v::r)=bp (fj v.i)++bp (cw (bT (v::r)))++cF (bT (v::r)) (cw (bT (v::r))):=rfl
   generalize cw (bT (v::r))=w at*
   generalize bT (v::r)=S at*
   simp -implicitDefEqProofs only[↓reduceIte,go_sem,Nat.reduceAdd,Nat.reduceLT,Nat.reduceLeDiff,Int.reduceLE,Int.reduceToNat,reduceCtorEq,aq.enc]
   refine ae.ok (ti _ hll.1 hll.2 _) ?_
   simp -implicitDefEqProofs only[↓reduceIte,go_sem,Nat.reduceLT]
   refine ae.ok (iH _ hzl _) ?_
   simp -implicitDefEqProofs only[↓reduceIte,go_sem,Nat.reduceLT,Nat.reduceEqDiff,aK w (by omega)]
   refine ae.ok (oF w (by omega) _) ?_
   have l1:=bD 10 (fj v.i) (by omega)
   have l2:=bD 10 w (by omega)
   simp -implicitDefEqProofs only[↓reduceIte,go_sem,Nat.reduceLT,Nat.reduceEqDiff,aL,ai,dh]
   refine⟨by omega,by omega,?_⟩
   refine ae.ok (vt S w hw64 hfit (by omega) false _) ?_
   simp -implicitDefEqProofs only[↓reduceIte,go_sem,Nat.reduceLT,Nat.reduceEqDiff,aL,ai,dh,List.length_append]
   have l3:(cF S w).length≤100000:=by
    rw[cF,cH,dW]
    have:S.length* w≤4096* 64:=Nat.mul_le_mul (by omega) hw64
    omega
   refine⟨by omega,by omega,aw.ret ?_⟩
   have ht:(aD (bp (fj v.i)++(bp w++cF S w))).take ((bp (fj v.i)).length+(bp w).length+(cF S w).length)=aD (bp (fj v.i)++(bp w++cF S w)):=bQ _ _ (by rw[ai,List.length_append,List.length_append];omega)
   simp -implicitDefEqProofs only[↓reduceIte,go_sem,Nat.reduceLT,Nat.reduceEqDiff,reduceCtorEq,jZ,h1,hb,ht,Ne,not_false_eq_true,and_self]
 ·simp -implicitDefEqProofs only[↓reduceIte,go_sem,Nat.reduceLT,Nat.reduceEqDiff,h1]
  refine aw.aI ?_
  simp -implicitDefEqProofs only[↓reduceIte,go_sem,Nat.reduceLT,Nat.reduceEqDiff,jZ,h1,false_and]
def j4(l:List aq):List Nat:=if aS l 1=0∧l≠[]then iN l else[]
def bU(l:List aq)(k w:Int):List Nat×Int:=
 if w=1 then(iI l k,aS l k)else if w=2 then(qQ l k,aS l k)else if w=3 then(ju l k,aS l k)
 else if w=4∧k=1 then(j4 l,aS l 1)else([],1)
theorem wU(l:List aq)(hok:∀v∈l,eJ v.i)(nn:Bool)(H:aa)(hl:l.length≤1000000000000):ag Tryz.prog 87 [.d (.list nn (l.map aq.enc))] H (.ok (.bz [.d (.list false (aD (j4 l))),iA (aS l 1)])) H:=by
 have h:=zF l hok nn H hl
 unfold jZ at h
 unfold j4
 by_cases c:aS l 1=0∧l≠[]
 ·rw[if_pos c]at h⊢
  rw[c.1]
  exact h
 ·rw[if_neg c]at h⊢
  exact ag.bE h (.cons .nil (.cons (.refl _) .nil))
def wQ(id:Nat)(k w:Int):Option AV:=
 if w=1 then some (.agg [.fn 75 [.ptr id 0 0 0],.fn 77 [.ptr id 0 0 0]])
 else if w=2 then some (.agg [.fn 79 [.ptr id 0 0 0],.fn 81 [.ptr id 0 0 0]])
 else if w=3 then some (.agg [.fn 83 [.ptr id 0 0 0],.fn 85 [.ptr id 0 0 0]])
 else if w=4∧k=1 then some (.agg [.fn 87 [],.fn 88 []])else none
theorem rQ(id:Nat)(k w:Int):gQ w (jx id k)=wQ id k w:=by
 unfold jx wQ
 by_cases h1:w=1
 ·subst h1;rfl
 by_cases h2:w=2
 ·subst h2;rfl
 by_cases h3:w=3
 ·subst h3;rfl
 rw[if_neg h1,if_neg h2,if_neg h3]
 by_cases hk:k=1
 ·subst hk
  by_cases h4:w=4
  ·subst h4;rfl
  ·simp[gQ,iz,h1,h2,h3,h4]
 ·rw[if_neg hk,if_neg (fun h=>hk h.2)]
  simp[gQ,iz,h1,h2,h3]
theorem vw(l:List aq)(k w:Int)(hok:∀v∈l,eJ v.i)(hl:l.length≤1000000000)(H:aa):
  ag Tryz.prog 31 [.d (.list false (l.map aq.enc)),iA k,iA w] H (.ok (.bz [.d (.list false (aD (bU l k w).1)),iA (bU l k w).2])) H:=by
 have hg:=fun id=>rQ id k w
 unfold wQ at hg
 unfold bU
 have hk:∀T:aa,((H++kB k::T):aa)[H.length]?=some (kB k):=fun T=>by simp
 by_cases h1:w=1
 ·subst h1
  simp only[if_true]at hg⊢
  refine ag.aj (hint:=(fun _=>false)) Tryz.func31 (by kernel_rfl) rfl [6,7] (by kernel_rfl) (by decide) (by simp[Tryz.ntmps31]) ?_
  rw[Tryz.ntmps31]
  simp -implicitDefEqProofs only[↓reduceIte,go_sem,Nat.reduceLT,Nat.reduceEqDiff]
  refine ae.ok (gB k _) ?_
  simp -implicitDefEqProofs only[↓reduceIte,go_sem,ah,au,Nat.reduceAdd,Nat.reduceLT,Nat.reduceLeDiff,Nat.reduceEqDiff,reduceCtorEq,hg,Option.getD_some,Option.isSome_some]
  refine ae.ok (ug l k hok hl _ H.length (hk _)) ?_
  simp -implicitDefEqProofs only[↓reduceIte,go_sem,Nat.reduceLT,Nat.reduceEqDiff]
  refine aw.ret ?_
  simp -implicitDefEqProofs only[↓reduceIte,go_sem,Nat.reduceLT,Nat.reduceEqDiff]
 rw[if_neg h1]at⊢
 simp only[if_neg h1]at hg
 by_cases h2:w=2
 ·subst h2
  simp only[if_true]at hg⊢
  refine ag.aj (hint:=(fun _=>false)) Tryz.func31 (by kernel_rfl) rfl [6,7] (by kernel_rfl) (by decide) (by simp[Tryz.ntmps31]) ?_
  rw[Tryz.ntmps31]
  simp -implicitDefEqProofs only[↓reduceIte,go_sem,Nat.reduceLT,Nat.reduceEqDiff]
  refine ae.ok (gB k _) ?_
  simp -implicitDefEqProofs only[↓reduceIte,go_sem,ah,au,Nat.reduceAdd,Nat.reduceLT,Nat.reduceLeDiff,Nat.reduceEqDiff,reduceCtorEq,hg,Option.getD_some,Option.isSome_some]
  refine ae.ok (zj l k hok hl _ H.length (hk _)) ?_
  simp -implicitDefEqProofs only[↓reduceIte,go_sem,Nat.reduceLT,Nat.reduceEqDiff]
  refine aw.ret ?_
  simp -implicitDefEqProofs only[↓reduceIte,go_sem,Nat.reduceLT,Nat.reduceEqDiff]
 rw[if_neg h2]at⊢
 simp only[if_neg h2]at hg
 by_cases h3:w=3
 ·subst h3
  simp only[if_true]at hg⊢
  refine ag.aj (hint:=(fun _=>false)) Tryz.func31 (by kernel_rfl) rfl [6,7] (by kernel_rfl) (by decide) (by simp[Tryz.ntmps31]) ?_
  rw[Tryz.ntmps31]
  simp -implicitDefEqProofs only[↓reduceIte,go_sem,Nat.reduceLT,Nat.reduceEqDiff]
  refine ae.ok (gB k _) ?_
  simp -implicitDefEqProofs only[↓reduceIte,go_sem,ah,au,Nat.reduceAdd,Nat.reduceLT,Nat.reduceLeDiff,Nat.reduceEqDiff,reduceCtorEq,hg,Option.getD_some,Option.isSome_some]
  refine ae.ok (wX l k hok hl _ H.length (hk _)) ?_
  simp -implicitDefEqProofs only[↓reduceIte,go_sem,Nat.reduceLT,Nat.reduceEqDiff]
  refine aw.ret ?_
  simp -implicitDefEqProofs only[↓reduceIte,go_sem,Nat.reduceLT,Nat.reduceEqDiff]
 rw[if_neg h3]at⊢
 simp only[if_neg h3]at hg
 by_cases h4:w=4∧k=1
 ·simp only[if_pos h4]at hg⊢
  refine ag.aj (hint:=(fun _=>false)) Tryz.func31 (by kernel_rfl) rfl [6,7] (by kernel_rfl) (by decide) (by simp[Tryz.ntmps31]) ?_
  rw[Tryz.ntmps31]
  simp -implicitDefEqProofs only[↓reduceIte,go_sem,Nat.reduceLT,Nat.reduceEqDiff]
  refine ae.ok (gB k _) ?_
  simp -implicitDefEqProofs only[↓reduceIte,go_sem,ah,au,Nat.reduceAdd,Nat.reduceLT,Nat.reduceLeDiff,Nat.reduceEqDiff,reduceCtorEq,hg,Option.getD_some,Option.isSome_some]
  refine ae.ok (wU l hok false _ (by omega)) ?_
  simp -implicitDefEqProofs only[↓reduceIte,go_sem,Nat.reduceLT,Nat.reduceEqDiff]
  refine aw.ret ?_
  simp -implicitDefEqProofs only[↓reduceIte,go_sem,Nat.reduceLT,Nat.reduceEqDiff]
 simp only[if_neg h4]at hg⊢
 refine ag.bE (cs:=[.d (.v (.slice none 0 0)),iA 1]) ?_ (.cons .nil (.cons (.refl _) .nil))
 refine ag.aj (hint:=(fun _=>false)) Tryz.func31 (by kernel_rfl) rfl [6,7] (by kernel_rfl) (by decide) (by simp[Tryz.ntmps31]) ?_
 rw[Tryz.ntmps31]
 simp -implicitDefEqProofs only[↓reduceIte,go_sem,Nat.reduceLT,Nat.reduceEqDiff]
 refine ae.ok (gB k _) ?_
 simp -implicitDefEqProofs only[↓reduceIte,go_sem,au,Nat.reduceAdd,Nat.reduceLT,Nat.reduceEqDiff,hg,Option.getD_none,Option.isSome_none]
 refine aw.ret ?_
 simp -implicitDefEqProofs only[↓reduceIte,go_sem,Nat.reduceLT,Nat.reduceEqDiff]
def jH(l:List aq)(k:Int)(x:Int×Int)(c:Int):Int×Int:=if(bU l k c).2=0∧(x.1<0∨((bU l k c).1.length:Int)<x.1)then((bU l k c).1.length,c)else x
def cX(l:List aq)(k:Int):Nat→Int×Int
 |0=>(-1,0)
 |n+1=>jH l k (cX l k n) ((n:Int)+1)
def tx(l:List aq)(k:Int):Int:=(cX l k 4).2
theorem EN(l:List aq)(k:Int)(hok:∀v∈l,eJ v.i)(hl:l.length≤1000000000)(H:aa):
  ag Tryz.prog 30 [.d (.list false (l.map aq.enc)),iA k] H (.ok (iA (tx l k))) H:=by
 have hb:=fun w H=>vw l k w hok hl H
 have hst:∀n,cX l k (n+1)=jH l k (cX l k n) ((n:Int)+1):=fun n=>rfl
 have hfin:tx l k=(cX l k 4).2:=rfl
 rw[hfin]
 have h0:cX l k 0=(-1,0):=rfl
 generalize cX l k=st at*
 refine ag.aj (hint:=(fun _=>false)) Tryz.func30 (by kernel_rfl) rfl [4] (by kernel_rfl) (by decide) (by simp[Tryz.ntmps30]) ?_
 rw[Tryz.ntmps30]
 simp -implicitDefEqProofs only[go_sem,Int.reduceNeg]
 refine cl _ _ _ _ (fun(n:Nat) s H'=>H'=H∧n≤4∧s 0= .d (.list false (l.map aq.enc))∧s 1=iA k∧s 5=iA (st n).1∧s 6=iA (st n).2∧s 7=iA ((n:Int)+1)) (fun n=>4-n) 0 (ay.refl _ _) ?_ ?_
 ·refine⟨rfl,by omega,?_⟩
  rw[h0]
  simp -implicitDefEqProofs only[↓reduceIte,go_sem,Nat.reduceLT,Nat.reduceEqDiff,Int.reduceAdd,Int.reduceNeg,reduceCtorEq]
 ·rintro n s H' ⟨rfl,hn,t0,t1,t5,t6,t7⟩
  by_cases h4:n<4
  ·have hs:=hst n
   have hb1:=hb ((n:Int)+1)
   have wn:IntKind.i64.wrap ((n:Int)+1+1)=(n:Int)+1+1:=wrap64_in _ (by omega) (by omega)
   unfold jH at hs
   generalize st n=x at*
   obtain⟨x1,x2⟩:=x
   simp only at hs t5 t6
   generalize hbp:bU l k ((n:Int)+1)=q at*
   obtain⟨bs,e⟩:=q
   simp only at hs hb1
   simp -implicitDefEqProofs only[↓reduceIte,go_sem,Nat.reduceLT,Nat.reduceEqDiff,reduceCtorEq,t0,t1,t7,show(((n:Int)+1)≤4)=True from eq_true (by omega)]
   refine ae.ok (hb1 _) ?_
   by_cases he:e=0
   ·by_cases h1:x1<0
    ·rw[if_pos ⟨he,.inl h1⟩]at hs
     simp -implicitDefEqProofs only[↓reduceIte,go_sem,Nat.reduceLT,Nat.reduceEqDiff,t5,t7,he,h1,ai,wn]
     refine⟨_,_,n+1,ay.refl _ _,⟨rfl,by omega,?_⟩,by omega⟩
     rw[hs]
     simp -implicitDefEqProofs only[↓reduceIte,go_sem,Nat.reduceLT,Nat.reduceEqDiff,reduceCtorEq,t0,t1]
    ·by_cases h2:(bs.length:Int)<x1
     ·rw[if_pos ⟨he,.inr h2⟩]at hs
      simp -implicitDefEqProofs only[↓reduceIte,go_sem,Nat.reduceLT,Nat.reduceEqDiff,reduceCtorEq,t5,t7,he,h1,h2,ai,wn]
      refine⟨_,_,n+1,ay.refl _ _,⟨rfl,by omega,?_⟩,by omega⟩
      rw[hs]
      simp -implicitDefEqProofs only[↓reduceIte,go_sem,Nat.reduceLT,Nat.reduceEqDiff,reduceCtorEq,t0,t1]
     ·rw[if_neg (fun h=>h.2.elim h1 h2)]at hs
      simp -implicitDefEqProofs only[↓reduceIte,go_sem,Nat.reduceLT,Nat.reduceEqDiff,reduceCtorEq,t5,t7,he,h1,h2,ai,wn]
      refine⟨_,_,n+1,ay.refl _ _,⟨rfl,by omega,?_⟩,by omega⟩
      rw[hs]
      simp -implicitDefEqProofs only[↓reduceIte,go_sem,Nat.reduceLT,Nat.reduceEqDiff,reduceCtorEq,t0,t1,t5,t6]
   ·rw[if_neg (fun h=>he h.1)]at hs
    simp -implicitDefEqProofs only[↓reduceIte,go_sem,Nat.reduceLT,Nat.reduceEqDiff,reduceCtorEq,t7,he,wn]
    refine⟨_,_,n+1,ay.refl _ _,⟨rfl,by omega,?_⟩,by omega⟩
    rw[hs]
    simp -implicitDefEqProofs only[↓reduceIte,go_sem,Nat.reduceLT,Nat.reduceEqDiff,reduceCtorEq,t0,t1,t5,t6]
  ·obtain rfl:n=4:=by omega
   simp -implicitDefEqProofs only[↓reduceIte,go_sem,Nat.reduceLT,Nat.reduceEqDiff,Int.reduceLE,Int.reduceAdd,t6,t7]
   refine aw.aI ?_
   simp -implicitDefEqProofs only[↓reduceIte,go_sem,Nat.reduceLT]
structure Sg where
 kind:Int
 bf:Int
 aU:Zn
 aA:List Bool
 body:List Nat
deriving DecidableEq
def Sg.cs(s:Sg):List AV:=[iA s.kind,iA s.bf,iA s.aU.rows,iA s.aU.aA,iA s.aU.mn.kind,iA s.aU.mn.i,sA s.aU.mn.s,iA s.aU.mx.kind,iA s.aU.mx.i,sA s.aU.mx.s,.d (.list false (bF s.aA)),.d (.list false (aD s.body))]
def OE:Zn:=⟨0,0,⟨0,0,cP⟩,⟨0,0,cP⟩⟩
def jI:Sg:=⟨0,0,OE,[],[]⟩
def ey:List AV:=[iA 0,iA 0,iA 0,iA 0,iA 0,iA 0,sA cP,iA 0,iA 0,sA cP,.d (.v (.slice none 0 0)),.d (.v (.slice none 0 0))]
theorem fJ:Sub (.agg ey) (.agg jI.cs):=
 .agg (.cons (.refl _) (.cons (.refl _) (.cons (.refl _) (.cons (.refl _) (.cons (.refl _) (.cons (.refl _) (.cons (.refl _) (.cons (.refl _) (.cons (.refl _) (.cons (.refl _) (.cons .nil (.cons .nil .nil))))))))))))
def bX(l:List aq)(k w:Int):Int:=if w=0 then tx (aE l) k else w
def bY(l:List aq):List Bool:=if(aE l).length=l.length then[]else bL l
def ee(l:List aq)(k w:Int):Sg×Int:=
 if aS (aE l) k≠0 then(jI,aS (aE l) k)
 else if 4096<l.length then(jI,2)
 else if(bU (aE l) k (bX l k w)).2≠0 then(jI,(bU (aE l) k (bX l k w)).2)
 else(⟨k,bX l k w,bu l,bY l,(bU (aE l) k (bX l k w)).1⟩,0)
theorem uZ(l:List aq)(k w:Int)(hok:∀v∈l,eJ v.i)(hl:l.length≤1000000000)(H:aa):
  ag Tryz.prog 14 [.d (.list false (l.map aq.enc)),iA k,iA w] H (.ok (.bz [.agg (ee l k w).1.cs,iA (ee l k w).2])) H:=by
 have hs:=fun H=>Bj l hl H
 have hfl:(aE l).length≤l.length:=List.length_filter_le _ _
 have hok2:∀v∈aE l,eJ v.i:=fun v hv=>hok v ((List.mem_filter.1 hv).1)
 have hc:=fun H=>fq (aE l) k false H (by omega)
 have hbe:=fun H=>EN (aE l) k hok2 (by omega) H
 have hbo:=fun H=>vw (aE l) k (bX l k w) hok2 (by omega) H
 have hzo:=fun H=>Fq l false hl H
 unfold ee bY
 have hw0:w=0→bX l k w=tx (aE l) k:=fun h=>if_pos h
 have hw1:w≠0→bX l k w=w:=fun h=>if_neg h
 generalize bX l k w=w' at*
 generalize tx (aE l) k=be at*
 generalize bU (aE l) k w'=bo at*
 obtain⟨bb,e⟩:=bo
 simp only at hbo⊢
 generalize bu l=z at*
 generalize aS (aE l) k=pe at*
 have hol:((bL l).length=l.length):=dN l
 generalize bL l=ns at*
 generalize aE l=L at*
 by_cases hpe:pe≠0
 ·rw[if_pos hpe]
  refine ag.bE (cs:=[.agg ey,iA pe]) ?_ (.cons fJ (.cons (.refl _) .nil))
  refine ag.bj (hint:=fun _=>false) Tryz.func14 (by kernel_rfl) rfl [.cell 6 30,.tmp 7] (by kernel_rfl) (by simp[Tryz.ntmps14]) ?_
  rw[Tryz.ntmps14]
  simp -implicitDefEqProofs only[↓reduceIte,go_sem,Nat.reduceLT,reduceCtorEq]
  refine ae.ok (hs _) ?_
  simp -implicitDefEqProofs only[↓reduceIte,go_sem,Nat.reduceLT,Nat.reduceEqDiff]
  refine ae.ok (hc _) ?_
  simp -implicitDefEqProofs only[↓reduceIte,go_sem,au,Nat.reduceAdd,Nat.reduceLT,Nat.reduceEqDiff,hpe]
  refine aZ.ret ?_
  simp -implicitDefEqProofs only[↓reduceIte,go_sem,ah,Nat.reduceAdd,Nat.reduceLT,Nat.reduceLeDiff,Nat.reduceEqDiff,aJ,a8,ey,cP]
 rw[if_neg hpe]
 obtain rfl:pe=0:=by simpa using hpe
 by_cases h4:4096<l.length
 ·rw[if_pos h4]
  refine ag.bE (cs:=[.agg ey,iA 2]) ?_ (.cons fJ (.cons (.refl _) .nil))
  refine ag.bj (hint:=fun _=>false) Tryz.func14 (by kernel_rfl) rfl [.cell 6 30,.tmp 7] (by kernel_rfl) (by simp[Tryz.ntmps14]) ?_
  rw[Tryz.ntmps14]
  simp -implicitDefEqProofs only[↓reduceIte,go_sem,Nat.reduceLT,reduceCtorEq]
  refine ae.ok (hs _) ?_
  simp -implicitDefEqProofs only[↓reduceIte,go_sem,Nat.reduceLT,Nat.reduceEqDiff]
  refine ae.ok (hc _) ?_
  simp -implicitDefEqProofs only[↓reduceIte,go_sem,au,Nat.reduceAdd,Nat.reduceLT,Nat.reduceEqDiff,reduceCtorEq,List.length_map,show((4096:Int)<(l.length:Int))=True from eq_true (by omega)]
  refine aZ.ret ?_
  simp -implicitDefEqProofs only[↓reduceIte,go_sem,ah,Nat.reduceAdd,Nat.reduceLT,Nat.reduceLeDiff,Nat.reduceEqDiff,aJ,a8,ey,cP]
 rw[if_neg h4]
 have h4f:((4096:Int)<(l.length:Int))=False:=eq_false (by omega)
 by_cases he:e≠0
 ·rw[if_pos he]
  refine ag.bE (cs:=[.agg ey,iA e]) ?_ (.cons fJ (.cons (.refl _) .nil))
  by_cases hw:w=0
  ·obtain rfl:=hw0 hw
   refine ag.bj (hint:=fun _=>false) Tryz.func14 (by kernel_rfl) rfl [.cell 6 30,.tmp 7] (by kernel_rfl) (by simp[Tryz.ntmps14]) ?_
   rw[Tryz.ntmps14]
   simp -implicitDefEqProofs only[↓reduceIte,go_sem,Nat.reduceLT,reduceCtorEq]
   refine ae.ok (hs _) ?_
   simp -implicitDefEqProofs only[↓reduceIte,go_sem,Nat.reduceLT,Nat.reduceEqDiff]
   refine ae.ok (hc _) ?_
   simp -implicitDefEqProofs only[↓reduceIte,go_sem,Nat.reduceLT,Nat.reduceEqDiff,reduceCtorEq,List.length_map,h4f,hw]
   refine ae.ok (hbe _) ?_
   simp -implicitDefEqProofs only[↓reduceIte,go_sem,Nat.reduceLT,Nat.reduceEqDiff]
   refine ae.ok (hbo _) ?_
   simp -implicitDefEqProofs only[↓reduceIte,go_sem,au,Nat.reduceAdd,Nat.reduceLT,Nat.reduceEqDiff,he]
   refine aZ.ret ?_
   simp -implicitDefEqProofs only[↓reduceIte,go_sem,ah,Nat.reduceAdd,Nat.reduceLT,Nat.reduceLeDiff,Nat.reduceEqDiff,aJ,a8,ey,cP]
  ·obtain rfl:=hw1 hw
   refine ag.bj (hint:=fun _=>false) Tryz.func14 (by kernel_rfl) rfl [.cell 6 30,.tmp 7] (by kernel_rfl) (by simp[Tryz.ntmps14]) ?_
   rw[Tryz.ntmps14]
   simp -implicitDefEqProofs only[↓reduceIte,go_sem,Nat.reduceLT,reduceCtorEq]
   refine ae.ok (hs _) ?_
   simp -implicitDefEqProofs only[↓reduceIte,go_sem,Nat.reduceLT,Nat.reduceEqDiff]
   refine ae.ok (hc _) ?_
   simp -implicitDefEqProofs only[↓reduceIte,go_sem,Nat.reduceLT,Nat.reduceEqDiff,reduceCtorEq,List.length_map,h4f,hw]
   refine ae.ok (hbo _) ?_
   simp -implicitDefEqProofs only[↓reduceIte,go_sem,au,Nat.reduceAdd,Nat.reduceLT,Nat.reduceEqDiff,he]
   refine aZ.ret ?_
   simp -implicitDefEqProofs only[↓reduceIte,go_sem,ah,Nat.reduceAdd,Nat.reduceLT,Nat.reduceLeDiff,Nat.reduceEqDiff,aJ,a8,ey,cP]
 rw[if_neg he]
 obtain rfl:e=0:=by simpa using he
 by_cases hn:L.length=l.length
 ·have hnt:((L.length:Int)=(l.length:Int))=True:=eq_true (by omega)
  rw[if_pos hn]
  refine ag.bE (cs:=[.agg [iA k,iA w',iA z.rows,iA z.aA,iA z.mn.kind,iA z.mn.i,sA z.mn.s,iA z.mx.kind,iA z.mx.i,sA z.mx.s,.d (.v (.slice none 0 0)),.d (.list false (aD bb))],iA 0]) ?_
   (.cons (.agg (.cons (.refl _) (.cons (.refl _) (.cons (.refl _) (.cons (.refl _) (.cons (.refl _) (.cons (.refl _) (.cons (.refl _) (.cons (.refl _) (.cons (.refl _) (.cons (.refl _) (.cons .nil (.cons (.refl _) .nil))))))))))))) (.cons (.refl _) .nil))
  by_cases hw:w=0
  ·obtain rfl:=hw0 hw
   refine ag.bj (hint:=fun _=>false) Tryz.func14 (by kernel_rfl) rfl [.cell 6 30,.tmp 7] (by kernel_rfl) (by simp[Tryz.ntmps14]) ?_
   rw[Tryz.ntmps14]
   simp -implicitDefEqProofs only[↓reduceIte,go_sem,Nat.reduceLT,reduceCtorEq]
   refine ae.ok (hs _) ?_
   simp -implicitDefEqProofs only[↓reduceIte,go_sem,Nat.reduceLT,Nat.reduceEqDiff]
   refine ae.ok (hc _) ?_
   simp -implicitDefEqProofs only[↓reduceIte,go_sem,Nat.reduceLT,Nat.reduceEqDiff,reduceCtorEq,List.length_map,h4f,hw]
   refine ae.ok (hbe _) ?_
   simp -implicitDefEqProofs only[↓reduceIte,go_sem,Nat.reduceLT,Nat.reduceEqDiff]
   refine ae.ok (hbo _) ?_
   simp -implicitDefEqProofs only[↓reduceIte,go_sem,Nat.reduceLT,Nat.reduceEqDiff,reduceCtorEq,List.length_map,hnt]
   refine ae.ok (hzo _) ?_
   simp -implicitDefEqProofs only[↓reduceIte,go_sem,au,Nat.reduceAdd,Nat.reduceLT,Nat.reduceLeDiff,Nat.reduceEqDiff,Zn.cs]
   refine aZ.ret ?_
   simp -implicitDefEqProofs only[↓reduceIte,go_sem,ah,Nat.reduceAdd,Nat.reduceLT,Nat.reduceLeDiff,Nat.reduceEqDiff,aJ,a8]
  ·obtain rfl:=hw1 hw
   refine ag.bj (hint:=fun _=>false) Tryz.func14 (by kernel_rfl) rfl [.cell 6 30,.tmp 7] (by kernel_rfl) (by simp[Tryz.ntmps14]) ?_
   rw[Tryz.ntmps14]
   simp -implicitDefEqProofs only[↓reduceIte,go_sem,Nat.reduceLT,reduceCtorEq]
   refine ae.ok (hs _) ?_
   simp -implicitDefEqProofs only[↓reduceIte,go_sem,Nat.reduceLT,Nat.reduceEqDiff]
   refine ae.ok (hc _) ?_
   simp -implicitDefEqProofs only[↓reduceIte,go_sem,Nat.reduceLT,Nat.reduceEqDiff,reduceCtorEq,List.length_map,h4f,hw]
   refine ae.ok (hbo _) ?_
   simp -implicitDefEqProofs only[↓reduceIte,go_sem,Nat.reduceLT,Nat.reduceEqDiff,reduceCtorEq,List.length_map,hnt]
   refine ae.ok (hzo _) ?_
   simp -implicitDefEqProofs only[↓reduceIte,go_sem,au,Nat.reduceAdd,Nat.reduceLT,Nat.reduceLeDiff,Nat.reduceEqDiff,Zn.cs]
   refine aZ.ret ?_
   simp -implicitDefEqProofs only[↓reduceIte,go_sem,ah,Nat.reduceAdd,Nat.reduceLT,Nat.reduceLeDiff,Nat.reduceEqDiff,aJ,a8]
 ·have hnt:((L.length:Int)=(l.length:Int))=False:=eq_false (by omega)
  rw[if_neg hn]
  by_cases hw:w=0
  ·obtain rfl:=hw0 hw
   refine ag.bj (hint:=fun _=>false) Tryz.func14 (by kernel_rfl) rfl [.cell 6 30,.tmp 7] (by kernel_rfl) (by simp[Tryz.ntmps14]) ?_
   rw[Tryz.ntmps14]
   simp -implicitDefEqProofs only[↓reduceIte,go_sem,Nat.reduceLT,reduceCtorEq]
   refine ae.ok (hs _) ?_
   simp -implicitDefEqProofs only[↓reduceIte,go_sem,Nat.reduceLT,Nat.reduceEqDiff]
   refine ae.ok (hc _) ?_
   simp -implicitDefEqProofs only[↓reduceIte,go_sem,Nat.reduceLT,Nat.reduceEqDiff,reduceCtorEq,List.length_map,h4f,hw]
   refine ae.ok (hbe _) ?_
   simp -implicitDefEqProofs only[↓reduceIte,go_sem,Nat.reduceLT,Nat.reduceEqDiff]
   refine ae.ok (hbo _) ?_
   simp -implicitDefEqProofs only[↓reduceIte,go_sem,Nat.reduceLT,Nat.reduceEqDiff,reduceCtorEq,List.length_map,hnt]
   refine ae.ok (hzo _) ?_
   simp -implicitDefEqProofs only[↓reduceIte,go_sem,au,Nat.reduceAdd,Nat.reduceLT,Nat.reduceLeDiff,Nat.reduceEqDiff,Zn.cs]
   refine aZ.ret ?_
   simp -implicitDefEqProofs only[↓reduceIte,go_sem,ah,Nat.reduceAdd,Nat.reduceLT,Nat.reduceLeDiff,Nat.reduceEqDiff,aJ,a8,Sg.cs]
  ·obtain rfl:=hw1 hw
   refine ag.bj (hint:=fun _=>false) Tryz.func14 (by kernel_rfl) rfl [.cell 6 30,.tmp 7] (by kernel_rfl) (by simp[Tryz.ntmps14]) ?_
   rw[Tryz.ntmps14]
   simp -implicitDefEqProofs only[↓reduceIte,go_sem,Nat.reduceLT,reduceCtorEq]
   refine ae.ok (hs _) ?_
   simp -implicitDefEqProofs only[↓reduceIte,go_sem,Nat.reduceLT,Nat.reduceEqDiff]
   refine ae.ok (hc _) ?_
   simp -implicitDefEqProofs only[↓reduceIte,go_sem,Nat.reduceLT,Nat.reduceEqDiff,reduceCtorEq,List.length_map,h4f,hw]
   refine ae.ok (hbo _) ?_
   simp -implicitDefEqProofs only[↓reduceIte,go_sem,Nat.reduceLT,Nat.reduceEqDiff,reduceCtorEq,List.length_map,hnt]
   refine ae.ok (hzo _) ?_
   simp -implicitDefEqProofs only[↓reduceIte,go_sem,au,Nat.reduceAdd,Nat.reduceLT,Nat.reduceLeDiff,Nat.reduceEqDiff,Zn.cs]
   refine aZ.ret ?_
   simp -implicitDefEqProofs only[↓reduceIte,go_sem,ah,Nat.reduceAdd,Nat.reduceLT,Nat.reduceLeDiff,Nat.reduceEqDiff,aJ,a8,Sg.cs]
def dS(b:List Nat)(most:Nat)(k:Int):(Nat×aq)×List Nat×Int:=
 if(aQ b).2.2≠0 then(zR,[],(aQ b).2.2)
 else if(aQ b).1=0∨most<(aQ b).1 then(zR,[],4)
 else if(ej (b.drop (aQ b).2.1) k).2.2≠0 then(zR,[],(ej (b.drop (aQ b).2.1) k).2.2)
 else(((aQ b).1,(ej (b.drop (aQ b).2.1) k).1),(ej (b.drop (aQ b).2.1) k).2.1,0)
theorem AG(b:List Nat)(most:Nat)(k:Int)(hm:most≤4096)(hl:b.length≤140737488351232)(hb:∀c∈b,c<256)(H:aa):
  ag Tryz.prog 149 [.d (.list false (aD b)),iA most,iA k] H (.ok (.bz [kI (dS b most k).1,.d (.list false (aD (dS b most k).2.1)),iA (dS b most k).2.2])) H:=by
 have hN:dS b most k=if(aQ b).2.2≠0 then(zR,[],(aQ b).2.2)else if(aQ b).1=0∨most<(aQ b).1 then(zR,[],4)else if(ej (b.drop (aQ b).2.1) k).2.2≠0 then(zR,[],(ej (b.drop (aQ b).2.1) k).2.2)else(((aQ b).1,(ej (b.drop (aQ b).2.1) k).1),(ej (b.drop (aQ b).2.1) k).2.1,0):=rfl
 have hgd:=fun H=>kg b false (by omega) hb H
 have hgl:=eO b
 have hglt:=fh b
 have wm:=aK most (by omega)
 rw[hN]
 clear hN
 generalize aQ b=g at*
 obtain⟨n,j,e⟩:=g
 simp only at hgd hgl hglt⊢
 by_cases he:e=0
 ·subst he
  rw[if_neg (by simp)]
  by_cases h1:n=0∨most<n
  ·rw[if_pos h1]
   refine ag.bE (cs:=[kI zR,.d (.v (.slice none 0 0)),iA 4]) ?_ (.cons (.refl _) (.cons .nil (.cons (.refl _) .nil)))
   refine ag.bj (hint:=fun _=>false) Tryz.func149 (by kernel_rfl) rfl [.cell 6 165,.tmp 7,.tmp 8] (by kernel_rfl) (by simp[Tryz.ntmps149]) ?_
   rw[Tryz.ntmps149]
   simp -implicitDefEqProofs only[↓reduceIte,go_sem,Nat.reduceLT,reduceCtorEq]
   refine ae.ok (hgd _) ?_
   by_cases h0:n=0
   ·subst h0
    simp -implicitDefEqProofs only[↓reduceIte,go_sem,au,Nat.reduceAdd,Nat.reduceLT,Nat.reduceEqDiff]
    refine aZ.ret ?_
    simp -implicitDefEqProofs only[↓reduceIte,go_sem,ah,Nat.reduceAdd,Nat.reduceLT,Nat.reduceLeDiff,Nat.reduceEqDiff,aJ,a8,kI,zR,zV,cP]
   ·have h2:most<n:=by omega
    simp -implicitDefEqProofs only[↓reduceIte,go_sem,au,Nat.reduceAdd,Nat.reduceLT,Nat.reduceEqDiff,reduceCtorEq,wm,show((n:Int)=0)=False from eq_false (by omega),show((most:Int)<(n:Int))=True from eq_true (by omega)]
    refine aZ.ret ?_
    simp -implicitDefEqProofs only[↓reduceIte,go_sem,ah,Nat.reduceAdd,Nat.reduceLT,Nat.reduceLeDiff,Nat.reduceEqDiff,aJ,a8,kI,zR,zV,cP]
  rw[if_neg h1]
  have c1:((n:Int)=0)=False:=eq_false (by omega)
  have c2:((most:Int)<(n:Int))=False:=eq_false (by omega)
  have hj0:((0:Int)≤(j:Int))=True:=eq_true (by omega)
  have hbt:(aD b).take b.length=aD b:=List.take_of_length_le (by rw[ai];exact Nat.le_refl _)
  have hod:=fun H=>gn (b.drop j) k (by rw[List.length_drop];omega) (fun c hc=>hb c (List.mem_of_mem_drop hc)) H
  have wn:IntKind.i64.wrap (n:Int)=(n:Int):=wrap64_in _ (by omega) (by omega)
  obtain⟨p,hp⟩:=eA (b.drop j) k
  have hlr:(ej (b.drop j) k).2.1.length≤b.length:=by rw[hp,List.length_drop,List.length_drop];omega
  generalize ej (b.drop j) k=o at*
  obtain⟨v,r,f⟩:=o
  simp only at hod hlr⊢
  by_cases hf:f=0
  ·subst hf
   rw[if_neg (by simp)]
   refine ag.bj (hint:=fun _=>false) Tryz.func149 (by kernel_rfl) rfl [.cell 6 165,.tmp 7,.tmp 8] (by kernel_rfl) (by simp[Tryz.ntmps149]) ?_
   rw[Tryz.ntmps149]
   simp -implicitDefEqProofs only[↓reduceIte,go_sem,Nat.reduceLT,reduceCtorEq]
   refine ae.ok (hgd _) ?_
   simp -implicitDefEqProofs only[↓reduceIte,go_sem,Nat.reduceLT,Nat.reduceEqDiff,reduceCtorEq,c1,c2,wm,aL,ai,hj0,hbt,cS]
   refine⟨by omega,ae.ok (hod _) ?_⟩
   simp -implicitDefEqProofs only[↓reduceIte,go_sem,ah,au,Nat.reduceAdd,Nat.reduceLT,Nat.reduceLeDiff,Nat.reduceEqDiff,wn]
   refine aZ.ret ?_
   simp -implicitDefEqProofs only[↓reduceIte,go_sem,ah,Nat.reduceAdd,Nat.reduceLT,Nat.reduceLeDiff,Nat.reduceEqDiff,aJ,a8,kI]
  ·rw[if_pos hf]
   refine ag.bE (cs:=[kI zR,.d (.v (.slice none 0 0)),iA f]) ?_ (.cons (.refl _) (.cons .nil (.cons (.refl _) .nil)))
   refine ag.bj (hint:=fun _=>false) Tryz.func149 (by kernel_rfl) rfl [.cell 6 165,.tmp 7,.tmp 8] (by kernel_rfl) (by simp[Tryz.ntmps149]) ?_
   rw[Tryz.ntmps149]
   simp -implicitDefEqProofs only[↓reduceIte,go_sem,Nat.reduceLT,reduceCtorEq]
   refine ae.ok (hgd _) ?_
   simp -implicitDefEqProofs only[↓reduceIte,go_sem,Nat.reduceLT,Nat.reduceEqDiff,reduceCtorEq,c1,c2,wm,aL,ai,hj0,hbt,cS]
   refine⟨by omega,ae.ok (hod _) ?_⟩
   simp -implicitDefEqProofs only[↓reduceIte,go_sem,au,Nat.reduceAdd,Nat.reduceLT,Nat.reduceEqDiff,hf]
   refine aZ.ret ?_
   simp -implicitDefEqProofs only[↓reduceIte,go_sem,ah,Nat.reduceAdd,Nat.reduceLT,Nat.reduceLeDiff,Nat.reduceEqDiff,aJ,a8,kI,zR,zV,cP]
 ·rw[if_pos he]
  refine ag.bE (cs:=[kI zR,.d (.v (.slice none 0 0)),iA e]) ?_ (.cons (.refl _) (.cons .nil (.cons (.refl _) .nil)))
  refine ag.bj (hint:=fun _=>false) Tryz.func149 (by kernel_rfl) rfl [.cell 6 165,.tmp 7,.tmp 8] (by kernel_rfl) (by simp[Tryz.ntmps149]) ?_
  rw[Tryz.ntmps149]
  simp -implicitDefEqProofs only[↓reduceIte,go_sem,Nat.reduceLT,reduceCtorEq]
  refine ae.ok (hgd _) ?_
  simp -implicitDefEqProofs only[↓reduceIte,go_sem,au,Nat.reduceAdd,Nat.reduceLT,Nat.reduceEqDiff,he]
  refine aZ.ret ?_
  simp -implicitDefEqProofs only[↓reduceIte,go_sem,ah,Nat.reduceAdd,Nat.reduceLT,Nat.reduceLeDiff,Nat.reduceEqDiff,aJ,a8,kI,zR,zV,cP]
def rq(k:Int):Nat→List (Nat×aq)→Nat→List Nat→List (Nat×aq)×List Nat×Int
 |0,R,_,b=>(R,b,0)
 |f+1,R,n,b=>if n=0 then(R,b,0)else if(dS b n k).2.2≠0 then([],[],(dS b n k).2.2)else if R≠[]∧(cM R).2=(dS b n k).1.2 then([],[],4)else rq k f (R++[(dS b n k).1]) (n-(dS b n k).1.1) (dS b n k).2.1
def cU(b:List Nat)(n k:Int):List (Nat×aq)×Int:=
 if bJ k=false then([],1)
 else if n<0 then([],2)
 else if 4096<n then([],2)
 else if(rq k n.toNat [] n.toNat b).2.2≠0 then([],(rq k n.toNat [] n.toNat b).2.2)
 else if(rq k n.toNat [] n.toNat b).2.1≠[]then([],4)
 else((rq k n.toNat [] n.toNat b).1,0)
theorem oD{b r:List Nat}{n:Nat}{k:Int}{q:Nat×aq}(h:dS b n k=(q,r,0)):1≤q.1∧q.1≤n∧∃j,r=b.drop j:=by
 unfold dS at h
 split at h
 ·rename_i he
  simp only[Prod.mk.injEq]at h
  exact absurd h.2.2 he
 split at h
 ·simp at h
 split at h
 ·rename_i he
  simp only[Prod.mk.injEq]at h
  exact absurd h.2.2 he
 ·rename_i h1 h2 h3
  simp only[Prod.mk.injEq,and_true]at h
  obtain⟨rfl,rfl⟩:=h
  obtain⟨j,hj⟩:=eA (b.drop (aQ b).2.1) k
  refine⟨by simp only;omega,by simp only;omega,(aQ b).2.1+j,by rw[hj,List.drop_drop]⟩
theorem xV(b:List Nat)(n k:Int)(hl:b.length≤140737488351232)(hb:∀c∈b,c<256)(H:aa):
  ag Tryz.prog 117 [.d (.list false (aD b)),iA n,iA k] H (.ok (.bz [.d (.list false ((cU b n k).1.map dc)),iA (cU b n k).2])) H:=by
 by_cases hk:bJ k=false
 ·rw[show cU b n k=([],1)from if_pos hk]
  refine ag.bE (cs:=[.d (.v (.slice none 0 0)),iA 1]) ?_ (.cons .nil (.cons (.refl _) .nil))
  refine ag.aj (hint:=(fun _=>false)) Tryz.func117 (by kernel_rfl) rfl [6,7] (by kernel_rfl) (by decide) (by simp[Tryz.ntmps117]) ?_
  rw[Tryz.ntmps117]
  simp -implicitDefEqProofs only[↓reduceIte,go_sem,Nat.reduceLT,Nat.reduceEqDiff]
  refine ae.ok (b7 k _) ?_
  simp -implicitDefEqProofs only[↓reduceIte,go_sem,Nat.reduceLT,Nat.reduceEqDiff,Int.reduceEq,hk,Bool.false_eq_true]
  refine aw.aI ?_
  simp -implicitDefEqProofs only[↓reduceIte,go_sem,Nat.reduceLT,Nat.reduceEqDiff]
 rw[show cU b n k=_ from if_neg hk]
 have hk1:bJ k=true:=by simpa using hk
 by_cases h1:n<0
 ·rw[if_pos h1]
  refine ag.bE (cs:=[.d (.v (.slice none 0 0)),iA 2]) ?_ (.cons .nil (.cons (.refl _) .nil))
  refine ag.aj (hint:=(fun _=>false)) Tryz.func117 (by kernel_rfl) rfl [6,7] (by kernel_rfl) (by decide) (by simp[Tryz.ntmps117]) ?_
  rw[Tryz.ntmps117]
  simp -implicitDefEqProofs only[↓reduceIte,go_sem,Nat.reduceLT,Nat.reduceEqDiff]
  refine ae.ok (b7 k _) ?_
  simp -implicitDefEqProofs only[↓reduceIte,go_sem,Nat.reduceLT,Nat.reduceEqDiff,hk1,h1]
  refine aw.aI ?_
  simp -implicitDefEqProofs only[↓reduceIte,go_sem,Nat.reduceLT,Nat.reduceEqDiff]
 rw[if_neg h1]
 by_cases h2:4096<n
 ·rw[if_pos h2]
  refine ag.bE (cs:=[.d (.v (.slice none 0 0)),iA 2]) ?_ (.cons .nil (.cons (.refl _) .nil))
  refine ag.aj (hint:=(fun _=>false)) Tryz.func117 (by kernel_rfl) rfl [6,7] (by kernel_rfl) (by decide) (by simp[Tryz.ntmps117]) ?_
  rw[Tryz.ntmps117]
  simp -implicitDefEqProofs only[↓reduceIte,go_sem,Nat.reduceLT,Nat.reduceEqDiff]
  refine ae.ok (b7 k _) ?_
  simp -implicitDefEqProofs only[↓reduceIte,go_sem,Nat.reduceLT,Nat.reduceEqDiff,reduceCtorEq,hk1,h1,h2]
  refine aw.aI ?_
  simp -implicitDefEqProofs only[↓reduceIte,go_sem,Nat.reduceLT,Nat.reduceEqDiff]
 rw[if_neg h2]
 obtain⟨m,rfl⟩:∃m:Nat,n=(m:Int):=⟨n.toNat,by omega⟩
 rw[Int.toNat_natCast]
 have h1f:((m:Int)<0)=False:=eq_false h1
 have h2f:((4096:Int)<(m:Int))=False:=eq_false h2
 obtain⟨q,hq⟩:∃q,q=rq k m [] m b:=⟨_,rfl⟩
 rw[←hq]
 suffices h:ag Tryz.prog 117 [.d (.list false (aD b)),iA m,iA k] H (.ok (if q.2.2≠0 then .bz [.d (.v (.slice none 0 0)),iA q.2.2]else if q.2.1≠[]then .bz [.d (.v (.slice none 0 0)),iA 4]else .bz [.d (.list false (q.1.map dc)),iA 0])) H by
  by_cases c1:q.2.2≠0
  ·rw[if_pos c1]at h⊢
   exact ag.bE h (.cons .nil (.cons (.refl _) .nil))
  ·rw[if_neg c1]at h⊢
   by_cases c2:q.2.1≠[]
   ·rw[if_pos c2]at h⊢
    exact ag.bE h (.cons .nil (.cons (.refl _) .nil))
   ·rw[if_neg c2]at h⊢
    exact h
 refine ag.aj (hint:=(fun _=>false)) Tryz.func117 (by kernel_rfl) rfl [6,7] (by kernel_rfl) (by decide) (by simp[Tryz.ntmps117]) ?_
 rw[Tryz.ntmps117]
 simp -implicitDefEqProofs only[↓reduceIte,go_sem,Nat.reduceLT,Nat.reduceEqDiff]
 refine ae.ok (b7 k _) ?_
 simp -implicitDefEqProofs only[↓reduceIte,go_sem,Nat.reduceLT,Nat.reduceEqDiff,reduceCtorEq,hk1,h1f,h2f]
 refine cl _ _ _ _ (fun(x:Nat×List (Nat×aq)×Nat×List Nat) s H'=>H'=H++[.arr 165 4 x.2.1.length (x.2.1.map dc)]∧rq k x.1 x.2.1 x.2.2.1 x.2.2.2=q∧x.2.2.1≤x.1∧x.2.1.length+x.1≤4096∧x.2.2.2.length≤b.length∧(∀y∈x.2.2.2,y<256)∧s 0= .d (.list false (aD x.2.2.2))∧s 1=iA x.2.2.1∧s 2=iA k∧s 10= .sl H.length x.2.1.length 0 x.2.1.length) (fun x=>x.2.2.1) (m,[],m,b) (ay.db _ _ 10 165 4 (by decide) (by simp -implicitDefEqProofs only[↓reduceIte,go_sem,Nat.reduceLT]) _) ?_ ?_
 ·refine⟨rfl,hq.symm,Nat.le_refl _,by simp;omega,Nat.le_refl _,hb,?_⟩
  simp -implicitDefEqProofs only[↓reduceIte,go_sem,Nat.reduceEqDiff,reduceCtorEq,List.length_nil]
 ·rintro⟨f,R,n,c⟩ s H' ⟨rfl,hT,hnf,hRf,hcl,hcb,t0,t1,t2,t10⟩
  simp only at hT hnf hRf hcl hcb t0 t1 t10⊢
  by_cases hn0:n=0
  ·subst hn0
   have hq2:q=(R,c,0):=by rw[←hT];cases f<;>simp[rq]
   rw[hq2]
   by_cases hc:c=[]
   ·subst hc
    simp -implicitDefEqProofs only[↓reduceIte,go_sem,Nat.reduceLT,Nat.reduceEqDiff,Int.reduceLT,reduceCtorEq,t0,t1,t10,ai,List.length_nil]
    refine aw.ret ?_
    simp -implicitDefEqProofs only[↓reduceIte,go_sem,Nat.reduceLT,Nat.reduceEqDiff,ne_eq,not_true_eq_false,List.take_of_length_le (show(R.map dc).length≤R.length by rw[List.length_map];exact Nat.le_refl _)]
   ·have hcp:=List.length_pos_iff.2 hc
    simp -implicitDefEqProofs only[↓reduceIte,go_sem,Nat.reduceLT,Int.reduceLT,reduceCtorEq,t0,t1,ai,show(0<(c.length:Int))=True from eq_true (by omega)]
    refine aw.ret ?_
    simp -implicitDefEqProofs only[↓reduceIte,go_sem,Nat.reduceLT,Nat.reduceEqDiff,ne_eq,hc,not_true_eq_false,not_false_eq_true]
  ·obtain⟨f,rfl⟩:∃g,f=g+1:=⟨f-1,by omega⟩
   have hnx:=fun H=>AG c n k (by omega) (by omega) hcb H
   have hnk:=fun q r=>oD (b:=c) (n:=n) (k:=k) (q:=q) (r:=r)
   have hTe:rq k (f+1) R n c=if n=0 then(R,c,0)else if(dS c n k).2.2≠0 then([],[],(dS c n k).2.2)else if R≠[]∧(cM R).2=(dS c n k).1.2 then([],[],4)else rq k f (R++[(dS c n k).1]) (n-(dS c n k).1.1) (dS c n k).2.1:=rfl
   rw[hTe,if_neg hn0]at hT
   clear hTe
   generalize dS c n k=x at*
   obtain⟨⟨rn,v⟩,r,e⟩:=x
   simp only at hT hnx
   simp -implicitDefEqProofs only[↓reduceIte,go_sem,Nat.reduceLT,Nat.reduceEqDiff,reduceCtorEq,t0,t1,t2,show(0<(n:Int))=True from eq_true (by omega)]
   refine ae.ok (hnx _) ?_
   by_cases he:e=0
   ·subst he
    rw[if_neg (by simp)]at hT
    obtain⟨g1,g2,p,g3⟩:=hnk _ _ rfl
    simp only at g1 g2
    have hrl:r.length≤b.length:=by rw[g3,List.length_drop];omega
    have hrb:∀y∈r,y<256:=fun y hy=>hcb y (by rw[g3]at hy;exact List.mem_of_mem_drop hy)
    have hld:=uQ R (H++[.arr 165 4 R.length (R.map dc),.box 165 4 0 1 [iA rn,iA v.kind,iA v.i,sA v.s]]) H.length R.length (by omega) (by simp)
    have hw:IntKind.i64.wrap ((n:Int)-(rn:Int))=((n-rn:Nat):Int):=by rw[wrap64_in _ (by omega) (by omega)];omega
    simp -implicitDefEqProofs only[↓reduceIte,go_sem,au,Nat.reduceAdd,Nat.reduceLT,Nat.reduceEqDiff,kI,t10]
    refine ae.ok hld ?_
    by_cases hR0:R=[]
    ·subst hR0
     rw[if_neg (by simp)]at hT
     simp -implicitDefEqProofs only[↓reduceIte,go_sem,ah,au,Nat.reduceAdd,Nat.reduceLT,Nat.reduceLeDiff,Nat.reduceEqDiff,reduceCtorEq,kI,cM,zR,zV,cP,List.getLast?_nil,Option.getD_none,ne_eq,not_true_eq_false,decide_false,t1,t10,List.length_nil,hw]
     refine⟨_,_,(f,[(rn,v)],n-rn,r),ay.cut [.arr 165 4 1 [[.v (.int .i64 rn),.v (.int .i64 v.kind),.v (.int .i64 v.i),.v (.string v.s)]]] [.box 165 4 0 1 [iA rn,iA v.kind,iA v.i,sA v.s],.box 165 4 0 1 [iA 0,iA 0,iA 0,sA ⟨#[]⟩]] 1 rfl _ (by simp -implicitDefEqProofs only[go_sem]),⟨rfl,hT,by simp only;omega,by simp only[List.length_singleton]at*;simp only[List.length_nil]at hRf;omega,hrl,hrb,?_⟩,by simp only;omega⟩
     simp -implicitDefEqProofs only[↓reduceIte,go_sem,Nat.reduceLT,Nat.reduceEqDiff,reduceCtorEq,t2,List.length_singleton]
    ·by_cases h2:(cM R).2=v
     ·rw[if_pos ⟨hR0,h2⟩]at hT
      subst hT
      generalize cM R=z at*
      obtain⟨m2,w⟩:=z
      simp only at h2
      subst h2
      simp -implicitDefEqProofs only[↓reduceIte,go_sem,ah,au,Nat.reduceAdd,Nat.reduceLT,Nat.reduceEqDiff,Int.reduceEq,kI,ne_eq,hR0,not_false_eq_true,decide_true,fm]
      refine aw.ret ?_
      simp -implicitDefEqProofs only[↓reduceIte,go_sem,Nat.reduceLT,Nat.reduceEqDiff,Int.reduceEq,not_false_eq_true]
     ·rw[if_neg (fun h=>h2 h.2)]at hT
      generalize cM R=z at*
      obtain⟨m2,w⟩:=z
      simp only at h2
      simp -implicitDefEqProofs only[↓reduceIte,go_sem,ah,au,Nat.reduceAdd,Nat.reduceLT,Nat.reduceLeDiff,Nat.reduceEqDiff,reduceCtorEq,kI,ne_eq,hR0,not_false_eq_true,decide_true,fm,h2,decide_false,t1,t10,List.length_map,hw]
      have hsn:R.map dc++[[D.v (.int .i64 rn),.v (.int .i64 v.kind),.v (.int .i64 v.i),.v (.string v.s)]]=(R++[(rn,v)]).map dc:=by simp[dc]
      have hln:(R++[(rn,v)]).length=R.length+1:=by simp
      refine⟨by omega,by omega,_,_,(f,R++[(rn,v)],n-rn,r),ay.cut [.arr 165 4 (R.length+1) (R.map dc++[[.v (.int .i64 rn),.v (.int .i64 v.kind),.v (.int .i64 v.i),.v (.string v.s)]])] [.box 165 4 0 1 [iA rn,iA v.kind,iA v.i,sA v.s],.box 165 4 0 1 [iA m2,iA w.kind,iA w.i,sA w.s]] 1 rfl _ (by simp -implicitDefEqProofs only[go_sem]),⟨by simp only[hsn,hln],hT,by simp only;omega,by simp only[hln];omega,hrl,hrb,?_⟩,by simp only;omega⟩
      simp -implicitDefEqProofs only[↓reduceIte,go_sem,Nat.reduceLT,Nat.reduceEqDiff,reduceCtorEq,t2,hln]
   ·rw[if_pos he]at hT
    subst hT
    simp -implicitDefEqProofs only[↓reduceIte,go_sem,au,Nat.reduceAdd,Nat.reduceLT,Nat.reduceEqDiff,he,kI]
    refine aw.ret ?_
    simp -implicitDefEqProofs only[↓reduceIte,go_sem,Nat.reduceLT,Nat.reduceEqDiff]
theorem HN(a:Nat)(ha:a<18446744073709551616):IntKind.u64.wrap (xC .u64 (a:Int) 4294967295)=((a%4294967296:Nat):Int):=by
 have h:=bits_and_u64_nat a 4294967295 ha (by omega)
 have e:a&&&4294967295=a%4294967296:=Nat.and_two_pow_sub_one_eq_mod a 32
 rw[e]at h
 exact h
theorem M5(a:Nat):j6 .u64 (a:Int) 32=((a/4294967296:Nat):Int):=by
 show(a:Int).fdiv (4294967296:Int)=_
 rw[Int.fdiv_eq_ediv_of_nonneg _ (by omega)]
 omega
theorem qE(a:Nat)(ha:a<18446744073709551616):IntKind.u64.wrap (a:Int)=(a:Int):=cg _ (by omega) (by omega)
theorem Mk(a:Nat):IntKind.u64.wrap (a:Int)=((a%18446744073709551616:Nat):Int):=by
 simp[IntKind.wrap,IntKind.signed,IntKind.bits]
theorem Bp(x y:Nat)(hx:x<18446744073709551616)(hy:y<18446744073709551616)(H:aa):
  ag Tryz.prog 178 [du x,du y] H (.ok (.bz [du (x* y/18446744073709551616),du (x* y%18446744073709551616)])) H:=by
 obtain⟨bd,bt,bw,hhi⟩:=Lib.mul64_hi x y hx hy
 have ba:=Lib.half_mul_le (a:=x/4294967296) (b:=y/4294967296) (by omega) (by omega)
 have bb:=Lib.half_mul_le (a:=x/4294967296) (b:=y%4294967296) (by omega) (by omega)
 have bc:=Lib.half_mul_le (a:=x%4294967296) (b:=y/4294967296) (by omega) (by omega)
 have ba':x/4294967296* (y/4294967296)<18446744073709551616:=by omega
 have bb':x/4294967296* (y%4294967296)<18446744073709551616:=by omega
 have bc':x%4294967296* (y/4294967296)<18446744073709551616:=by omega
 have bh1:x/4294967296* (y/4294967296)+(x/4294967296* (y%4294967296)+x%4294967296* (y%4294967296)/4294967296)/4294967296<18446744073709551616:=by omega
 have bh:x/4294967296* (y/4294967296)+(x/4294967296* (y%4294967296)+x%4294967296* (y%4294967296)/4294967296)/4294967296+((x/4294967296* (y%4294967296)+x%4294967296* (y%4294967296)/4294967296)%4294967296+x%4294967296* (y/4294967296))/4294967296<18446744073709551616:=by omega
 refine ag.aj (hint:=(fun _=>false)) Tryz.func178 (by kernel_rfl) rfl [4,5] (by kernel_rfl) (by decide) (by simp[Tryz.ntmps178]) ?_
 rw[Tryz.ntmps178]
 simp -implicitDefEqProofs only[↓reduceIte,go_sem,Nat.reduceLT,Nat.reduceEqDiff,Int.reduceLE,reduceCtorEq,du]
 refine aw.aI ?_
 simp -implicitDefEqProofs only[↓reduceIte,go_sem,Nat.reduceLT,Nat.reduceEqDiff]
 simp only[HN x hx,HN y hy,M5,←Int.natCast_mul,←Int.natCast_add,qE _ bd,qE _ bb',qE _ bt,HN _ bt,qE _ bc',qE _ bw,qE _ ba',qE _ bh1,Mk (x* y),hhi]
 rw[qE _ (by rw[←hhi];exact bh)]
theorem DB(x y:Nat)(hx:x<18446744073709551616)(hy:y<18446744073709551616)(H:aa):ag Tryz.prog 171 [du x,du y] H (.ok (.bz [du (x* y/18446744073709551616),du (x* y%18446744073709551616)])) H:=by
 have hm:=fun H=>Bp x y hx hy H
 generalize x* y/18446744073709551616=p at*
 generalize x* y%18446744073709551616=q at*
 refine ag.aj (hint:=(fun _=>false)) Tryz.func171 (by kernel_rfl) rfl [4,5] (by kernel_rfl) (by decide) (by simp[Tryz.ntmps171]) ?_
 rw[Tryz.ntmps171]
 simp -implicitDefEqProofs only[↓reduceIte,go_sem,Nat.reduceLT,Nat.reduceEqDiff,reduceCtorEq]
 refine ae.ok (hm _) ?_
 simp -implicitDefEqProofs only[↓reduceIte,go_sem,Nat.reduceLT,Nat.reduceEqDiff]
 refine aw.aI ?_
 simp -implicitDefEqProofs only[↓reduceIte,go_sem,Nat.reduceLT,Nat.reduceEqDiff]
def zE:List D:=[.v (.int .i64 0),.v (.int .i64 0),.v (.string ⟨#[]⟩)]
def nS(v:aq)(m n:Nat):List (List D):=List.replicate n v.enc++List.replicate (m-n) zE
theorem Gg(v:aq){m n:Nat}(h:n≤m):(nS v m n).length=m:=by simp[nS];omega
theorem BV(v:aq)(m n k:Nat):∀c∈(nS v m n).take k,c.length=3:=by
 intro c hc
 have:=List.mem_of_mem_take hc
 unfold nS at this
 rcases List.mem_append.1 this with h|h<;>rw[List.eq_of_mem_replicate h]<;>rfl
theorem DX(v:aq){m n:Nat}(h:n≤m)(h0:0<n):cB (nS v m n) n (((nS v m n).take n).take (min n (m-n)))=nS v m (n+min n (m-n)):=by
 have e1:(nS v m n).take n=List.replicate n v.enc:=by
  unfold nS
  rw[List.take_left' (by simp)]
 rw[e1,List.take_replicate,show min (min n (m-n)) n=min n (m-n) by omega]
 unfold cB
 rw[e1]
 unfold nS
 rw[←List.replicate_append_replicate (n:=n) (m:=min n (m-n)),List.length_replicate,List.drop_append,List.length_replicate]
 rw[List.drop_eq_nil_of_le (by simp),List.nil_append,List.drop_replicate]
 congr 2
 omega
theorem yR(v:aq)(nn:Bool)(m:Nat)(hm:m≤4096)(H:aa):ag Tryz.prog 150 [.d (.list nn [v.enc]),iA m] H (.ok (.d (.list false (List.replicate m v.enc)))) H:=by
 have w1:IntKind.u64.wrap 1=1:=by decide
 have w2:IntKind.u64.wrap (m:Int)=(m:Int):=by simp[IntKind.wrap,IntKind.signed,IntKind.bits];omega
 have w3:IntKind.i64.wrap (m:Int)=(m:Int):=wrap64_in _ (by omega) (by omega)
 have hmul:=fun H=>DB 1 m (by omega) (by omega) H
 rw[Nat.one_mul,Nat.div_eq_of_lt (by omega),Nat.mod_eq_of_lt (by omega)]at hmul
 have hcopy:cB (List.replicate m zE) 0 ([v.enc].take (min 1 m))=nS v m (min 1 m):=by
  unfold cB nS
  rcases Nat.eq_zero_or_pos m with h|h
  ·subst h;rfl
  ·rw[show min 1 m=1 by omega]
   simp
 unfold zE at hcopy
 have hc1:(∀c∈[v.enc],c.length=3)=True:=eq_true fun c hc=>by rw[List.mem_singleton.1 hc];rfl
 have hvl:v.enc.length=3:=rfl
 generalize hV:v.enc=V at*
 refine ag.aj (hint:=(fun _=>false)) Tryz.func150 (by kernel_rfl) rfl [4] (by kernel_rfl) (by decide) (by simp[Tryz.ntmps150]) ?_
 rw[Tryz.ntmps150]
 simp -implicitDefEqProofs only[↓reduceIte,go_sem,Nat.reduceLT,Nat.reduceEqDiff,reduceCtorEq,show((m:Int)<0)=False from eq_false (by omega),w1,w2]
 refine ae.ok (hmul _) ?_
 simp -implicitDefEqProofs only[↓reduceIte,go_sem,Nat.reduceLT,Nat.reduceEqDiff,Int.reduceLT,reduceCtorEq,w3,show((9223372036854775807:Int)<(m:Int))=False from eq_false (by omega)]
 refine⟨⟨by omega,by omega⟩,hvl,?_⟩
 refine cl _ _ _ _ (fun(n:Nat) s H'=>H'=H++[.arr 25 3 0 (nS v m n)]∧n≤m∧(0<n∨m=0)∧s 7= .sl H.length 0 0 m∧s 8=iA n) (fun n=>m-n) (min 1 m) (ay.refl _ _) ?_ ?_
 ·refine⟨by simp -implicitDefEqProofs only[go_sem,hcopy],by omega,by omega,?_⟩
  simp -implicitDefEqProofs only[↓reduceIte,go_sem,Nat.reduceLT,Nat.reduceEqDiff]
 ·rintro n s H' ⟨rfl,hn,h0,t7,t8⟩
  have hlen:=Gg v hn
  by_cases hlt:n<m
  ·have hst:=DX v hn (by omega)
   have w4:IntKind.i64.wrap ((n:Int)+((min n (m-n):Nat):Int))=((n+min n (m-n):Nat):Int):=by rw[wrap64_in _ (by omega) (by omega)];omega
   obtain⟨q,hq⟩:∃q,q=n+min n (m-n):=⟨_,rfl⟩
   rw[←hq]at w4 hst
   simp -implicitDefEqProofs only[↓reduceIte,go_sem,Nat.reduceLT,Nat.reduceEqDiff,t7,t8,show((n:Int)<(m:Int))=True from eq_true (by omega)]
   refine dK [some false,some false,some false,some false,some false,some false,some false,some true] 7 H K.mixed (by kernel_rfl) (by kernel_rfl) (by kernel_rfl) (Ext.app H _) ?_
   simp -implicitDefEqProofs only[↓reduceIte,go_sem,Nat.reduceLT,Nat.reduceEqDiff,Int.reduceLE,Int.reduceToNat,t7,t8,Nat.sub_zero,List.length_take,hlen,Nat.min_eq_left hn,w4,hst]
   refine⟨hn,.inr hlt,hn,.inr (by omega),fun c hc=>BV v m n n c hc,_,_,q,ay.refl _ _,⟨rfl,by omega,by omega,?_⟩,by omega⟩
   simp -implicitDefEqProofs only[↓reduceIte,go_sem,Nat.reduceLT,Nat.reduceEqDiff,t7]
  ·obtain rfl:n=m:=by omega
   simp -implicitDefEqProofs only[↓reduceIte,go_sem,Nat.reduceLT,Nat.reduceEqDiff,t7,t8]
   refine aw.ret ?_
   have hrr:nS v n n=List.replicate n v.enc:=by unfold nS;rw[Nat.sub_self];simp
   rw[hV]at hrr
   simp -implicitDefEqProofs only[↓reduceIte,go_sem,Nat.reduceLT,hrr,List.take_of_length_le (show(List.replicate n V).length≤n by simp)]
end Go.Proofs.YtmbagpfmfiegkaaGreat
