/- Contracts of functions and lemmas for costPlans_holds, part 6. -/
import Derived.Test.YtggohfhfocgilaaGreatM05
set_option maxHeartbeats 8000000
set_option maxRecDepth 100000
set_option linter.all false
namespace Go.Proofs.YtggohfhfocgilaaGreat
open Go.Proofs.YtggohfhfocgilaaGreatAw Go.RowKit
namespace SR
theorem eR(n:Nat)(h:n≤2000000000000):IntKind.i64.wrap (j5 .u64 (IntKind.u64.wrap (n:Int)) 1)=((n/2:Nat):Int):=by
 rw[cM n (by omega)]
 have:=sG n 1 (by decide)
 rw[show((1:Nat):Int)=1 from rfl]at this
 rw[this]
 exact zE _ (by omega)
theorem gu{L P R:List (List ak)}{x y:(List ak)}(h:L=P++x::y::R){i:Nat}(hi:P.length=i):L[i]?=some x∧L[i+1]?=some y∧(L.set i y)[i+1]?=some y∧(L.set (i+1) x)[i]?=some x∧(L.set i y).set (i+1) x=P++y::x::R∧(L.set (i+1) x).set i y=P++y::x::R:=by
 subst h hi
 have e:P++x::y::R=(P++[x])++y::R:=by simp
 have e2:∀z:(List ak),P++z::y::R=(P++[z])++y::R:=by simp
 have h1:∀z:(List ak),(P++[z]).length=P.length+1:=by simp
 refine⟨get_at rfl,by rw[e];exact get_at (h1 x),?_,?_,?_,?_⟩
 ·rw[cg rfl,e2];exact get_at (h1 y)
 ·rw[e,cg (h1 x)]
  have:P++[x]++x::R=P++x::(x::R):=by simp
  rw[this];exact get_at rfl
 ·rw[cg rfl,e2,cg (h1 y)];simp
 ·rw[e,cg (h1 x)]
  have:P++[x]++x::R=P++x::(x::R):=by simp
  rw[this,cg rfl]
theorem uW{P X Y Q L:List (List ak)}{a:Nat}(hL:L=P++X++Y++Q)(ha:P.length=a):∀i x,X[i]?=some x→L[a+i]?=some x:=fun i x hx=>by
 have:=(List.getElem?_eq_some_iff.1 hx).1
 rw[hL,List.append_assoc,List.append_assoc,←ha,List.getElem?_append_right (by omega),List.getElem?_append_left (by omega),Nat.add_sub_cancel_left]
 exact hx
theorem vI{P X Y Q L:List (List ak)}{m:Nat}(hL:L=P++X++Y++Q)(hm:P.length+X.length=m):∀i y,Y[i]?=some y→L[m+i]?=some y:=fun i y hy=>by
 have:=(List.getElem?_eq_some_iff.1 hy).1
 rw[hL,List.append_assoc (P++X),←hm,List.getElem?_append_right (by simp),List.getElem?_append_left (by simp;omega)]
 simpa[Nat.add_sub_cancel_left]using hy
theorem l7(H:aa)(id ag:Nat)(hid:id<H.length)(g:FuncId)(caps:List AV)(c:(List ak)→(List ak)→Int)(ho:St.Ord (aW c))(hc:dJ g caps c H id)(n:Nat)(hbig:n≤1000000000000)(P X Y Q L L':List (List ak))(a m b:Nat)
  (hL:L=P++X++Y++Q) (hL':L'=P++St.aG (aW c) (X++Y)++Q) (ha:P.length=a) (hm:P.length+X.length=m) (hb:P.length+X.length+Y.length=b) (hX0:0<X.length) (hY0:0<Y.length) (hX:St.au (aW c) X) (hY:St.au (aW c) Y) (hn:L.length=n) (h1:X.length=1):
  ah Tryz.prog 184 [.sl id ag 0 n,iA a,iA m,iA b,.fn g caps] (aH H id ag L) (.ok (.bq [])) (aH H id ag L'):=by
 have hnl:P.length+X.length+Y.length+Q.length=n:=by rw[←hn,hL];simp;omega
 have w1:IntKind.i64.wrap ((m:Int)-(a:Int))=((X.length:Nat):Int):=by rw[wrap64_in _ (by omega) (by omega)];omega
 have w2:IntKind.i64.wrap ((b:Int)-(m:Int))=((Y.length:Nat):Int):=by rw[wrap64_in _ (by omega) (by omega)];omega
 have hLX:=uW hL ha
 have hLY:=vI hL hm
 generalize hE0:aH H id ag L=E0
 have gh:=cf hid ag L
 rw[hE0]at gh
 have hcE:∀x y:(List ak),ah Tryz.prog g ([.d (.list false (x.map ak.enc)),.d (.list false (y.map ak.enc))]++caps) E0 (.ok (iA (c x y))) E0:=fun x y=>by rw[←hE0];exact hc.at ag L x y
 refine ah.aj (hint:=(fun _=>false)) Tryz.func184 (by kernel_rfl) rfl [] (by kernel_rfl) (by decide) (by simp[Tryz.ntmps184]) ?_
 rw[Tryz.ntmps184]
 obtain⟨x,rfl⟩:∃x,X=[x]:=List.length_eq_one_iff.1 h1
 simp -implicitDefEqProofs only[↓reduceIte,go_sem,Nat.reduceLT,Nat.reduceEqDiff,w1,h1]
 refine br _ _ _ _ (fun(z:Nat×Nat) s H'=>H'=E0∧z.1≤z.2∧z.2≤Y.length∧(z.1=0∨∃y,Y[z.1-1]?=some y∧aW c y x=true)∧(z.2=Y.length∨∃y,Y[z.2]?=some y∧aW c y x=false)∧
  s 0= .sl id ag 0 n∧s 1=iA a∧s 4= .fn g caps∧s 10=iA ((m+z.1:Nat):Int)∧s 11=iA ((m+z.2:Nat):Int)) (fun z=>z.2-z.1) (0,Y.length) (an.refl _ _) ?_ ?_
 ·refine⟨rfl,Nat.zero_le _,Nat.le_refl _,.inl rfl,.inl rfl,?_⟩
  simp -implicitDefEqProofs only[↓reduceIte,go_sem,Nat.reduceLT,Nat.reduceEqDiff,reduceCtorEq,show m+Y.length=b by omega,Nat.add_zero]
 ·rintro⟨i,j⟩ s H' ⟨rfl,hij,hj,hlo,hhi,t0,t1,t4,t10,t11⟩
  simp only at hij hj hlo hhi t10 t11
  obtain⟨i',hi'⟩:∃i',i'=m+i:=⟨_,rfl⟩
  obtain⟨j',hj'⟩:∃j',j'=m+j:=⟨_,rfl⟩
  rw[←hi']at t10
  rw[←hj']at t11
  have f1:((m:Int)+(i:Int))=(i':Int):=by omega
  have f2:((m:Int)+(j:Int))=(j':Int):=by omega
  by_cases hlt:i<j
  ·obtain⟨q,hq⟩:∃q,q=i'+j':=⟨_,rfl⟩
   have w3:IntKind.i64.wrap ((i':Int)+(j':Int))=(q:Int):=by rw[wrap64_in _ (by omega) (by omega)];omega
   have w4:=eR q (by omega)
   obtain⟨h,hh⟩:∃h,h=q/2:=⟨_,rfl⟩
   rw[←hh]at w4
   obtain⟨y,hy⟩:∃y,Y[h-m]?=some y:=⟨_,List.getElem?_eq_getElem (show h-m<Y.length by omega)⟩
   have gy:=aD (hLY _ _ hy)
   rw[show m+(h-m)=h by omega]at gy
   have gx:=aD (hLX 0 x rfl)
   rw[Nat.add_zero]at gx
   have hd:=hcE y x
   simp only[cS]at gx gy
   try simp only[cS,List.map_cons,List.map_nil]at hd
   have hln:h<n:=by omega
   have han:a<n:=by omega
   simp -implicitDefEqProofs only[↓reduceIte,go_sem,Nat.reduceLT,Nat.reduceEqDiff,Int.reduceLE,t10,t11,show((i':Int)<(j':Int))=True from eq_true (by omega),w3,w4]
   refine aR K.mixed (by kernel_rfl) ?_
   simp -implicitDefEqProofs only[↓reduceIte,go_sem,ae,Nat.reduceLT,Nat.reduceEqDiff,reduceCtorEq,t0,t1,t4,gh,gx,gy,hln,han]
   refine ab.ok hd ?_
   by_cases hcc:c y x<0
   ·have hw5:IntKind.i64.wrap ((h:Int)+1)=((m+(h-m+1):Nat):Int):=by rw[wrap64_in _ (by omega) (by omega)];omega
    obtain⟨h2,hh2⟩:∃h2,h2=m+(h-m+1):=⟨_,rfl⟩
    rw[←hh2]at hw5
    simp -implicitDefEqProofs only[↓reduceIte,go_sem,Nat.reduceLT,Nat.reduceEqDiff,hcc,hw5]
    refine⟨_,_,(h-m+1,j),an.refl _ _,⟨rfl,by simp only;omega,hj,.inr ⟨y,by simpa using hy,by simp[aW,hcc]⟩,hhi,?_⟩,by simp only;omega⟩
    simp -implicitDefEqProofs only[↓reduceIte,go_sem,Nat.reduceLT,Nat.reduceEqDiff,reduceCtorEq,t0,t1,t4,t11,show((m:Int)+(((h-m:Nat):Int)+1))=(h2:Int) by omega,f2]
   ·simp -implicitDefEqProofs only[↓reduceIte,go_sem,Nat.reduceLT,Nat.reduceEqDiff,hcc]
    refine⟨_,_,(i,h-m),an.refl _ _,⟨rfl,by simp only;omega,by simp only;omega,hlo,.inr ⟨y,hy,by simp[aW,hcc]⟩,?_⟩,by simp only;omega⟩
    simp -implicitDefEqProofs only[↓reduceIte,go_sem,Nat.reduceLT,Nat.reduceEqDiff,reduceCtorEq,t0,t1,t4,t10,show((m:Int)+((h-m:Nat):Int))=(h:Int) by omega,f1]
  ·obtain rfl:j=i:=by omega
   have hmg:=St.p0 ho hY hj hlo hhi
   have hw6:IntKind.i64.wrap ((i':Int)-1)=(i':Int)-1:=wrap64_in _ (by omega) (by omega)
   simp -implicitDefEqProofs only[↓reduceIte,go_sem,Nat.reduceLT,Nat.reduceEqDiff,t10,t11,show((i':Int)<(j':Int))=False from eq_false (by omega),t1]
   refine aP (fun k s H'=>(∃Lk,H'=aH H id ag Lk∧Lk=P++Y.take k++x::(Y.drop k++Q))∧s 0= .sl id ag 0 n∧s 10=iA i'∧s 13=iA ((a:Int)+(k:Int))) j (by omega) (an.refl _ _) ?_ ?_ ?_
   ·refine⟨⟨L,hE0.symm,by rw[hL];simp⟩,?_⟩
    simp -implicitDefEqProofs only[↓reduceIte,go_sem,Nat.reduceLT,Nat.reduceEqDiff,reduceCtorEq,t0,t10,Int.add_zero]
   ·rintro k s H' hk hw ⟨⟨Lk,rfl,hLk⟩,t0,t10,t13⟩
    have hkY:k<Y.length:=by omega
    have e1:Y.drop k=Y[k]::Y.drop (k+1):=List.drop_eq_getElem_cons hkY
    have e2:Y.take (k+1)=Y.take k++[Y[k]]:=List.take_succ_eq_append_getElem hkY
    rw[e1]at hLk
    rw[e2]
    have l1:(P++Y.take k).length=a+k:=by simp;omega
    generalize Y[k]=y at*
    generalize Y.drop (k+1)=Y1 at*
    generalize Y.take k=Y0 at*
    obtain⟨u,hu⟩:∃u,u=a+k:=⟨_,rfl⟩
    obtain⟨v,hv⟩:∃v,v=u+1:=⟨_,rfl⟩
    rw[←hu]at l1
    obtain⟨g1,g2,g3,_,g5,_⟩:=gu (L:=Lk) (P:=P++Y0) (x:=x) (y:=y) (R:=Y1++Q) (by rw[hLk];simp) l1
    rw[←hv]at g2 g3 g5
    have f3:((a:Int)+(k:Int))=(u:Int):=by omega
    have hw7:IntKind.i64.wrap ((u:Int)+1)=(v:Int):=by rw[wrap64_in _ (by omega) (by omega)];omega
    rw[f3]at t13
    have gg:=cf hid ag Lk
    have q1:=aD g1
    have q2:=aD g2
    have q3:=aD g3
    have s1:=b8 Lk u y
    have s2:=b8 (Lk.set u y) v x
    rw[g5]at s2
    have hun:u<n:=by omega
    have hvn:v<n:=by omega
    simp only[cS]at q1 q2 q3 s1 s2
    simp -implicitDefEqProofs only[↓reduceIte,go_sem,Nat.reduceLT,Nat.reduceEqDiff,t10,t13,hw6,show((u:Int)<(i':Int)-1)=True from eq_true (by omega)]
    refine dE [false,false,false,false,false,false,false,false,false,false,false,false,false,false,true,true,true,true] 14 K.mixed (by kernel_rfl) (by kernel_rfl) (by kernel_rfl) ?_
    simp -implicitDefEqProofs only[↓reduceIte,go_sem,ae,aw,Nat.reduceLT,Nat.reduceEqDiff,reduceCtorEq,t0,t13,hw7,hun,hvn,gg,q1,q2,q3,s1,s2,dT,hid,List.getElem?_set_self,List.set_set]
    refine cO.same ⟨⟨_,by rw[←dp],by simp⟩,?_⟩
    simp -implicitDefEqProofs only[↓reduceIte,go_sem,Nat.reduceLT,Nat.reduceEqDiff,reduceCtorEq,t0,t10,show((a:Int)+((k:Int)+1))=(v:Int) by omega]
   ·rintro s H' ⟨⟨Lk,rfl,hLk⟩,t0,t10,t13⟩
    simp -implicitDefEqProofs only[↓reduceIte,go_sem,Nat.reduceLT,Nat.reduceEqDiff,t10,t13,hw6,show((a:Int)+(j:Int)<(i':Int)-1)=False from eq_false (by omega)]
    have:Lk=L':=by rw[hLk,hL',List.singleton_append,←hmg];simp
    rw[this]
    exact⟨_,an.refl _ _,rfl⟩
theorem l6(H:aa)(id ag:Nat)(hid:id<H.length)(g:FuncId)(caps:List AV)(c:(List ak)→(List ak)→Int)(ho:St.Ord (aW c))(hc:dJ g caps c H id)(n:Nat)(hbig:n≤1000000000000)(P X Y Q L L':List (List ak))(a m b:Nat)
  (hL:L=P++X++Y++Q) (hL':L'=P++St.aG (aW c) (X++Y)++Q) (ha:P.length=a) (hm:P.length+X.length=m) (hb:P.length+X.length+Y.length=b) (hX0:0<X.length) (hY0:0<Y.length) (hX:St.au (aW c) X) (hY:St.au (aW c) Y) (hn:L.length=n) (h1:¬X.length=1) (h2:Y.length=1):
  ah Tryz.prog 184 [.sl id ag 0 n,iA a,iA m,iA b,.fn g caps] (aH H id ag L) (.ok (.bq [])) (aH H id ag L'):=by
 have hnl:P.length+X.length+Y.length+Q.length=n:=by rw[←hn,hL];simp;omega
 have w1:IntKind.i64.wrap ((m:Int)-(a:Int))=((X.length:Nat):Int):=by rw[wrap64_in _ (by omega) (by omega)];omega
 have w2:IntKind.i64.wrap ((b:Int)-(m:Int))=((Y.length:Nat):Int):=by rw[wrap64_in _ (by omega) (by omega)];omega
 have hLX:=uW hL ha
 have hLY:=vI hL hm
 generalize hE0:aH H id ag L=E0
 have gh:=cf hid ag L
 rw[hE0]at gh
 have hcE:∀x y:(List ak),ah Tryz.prog g ([.d (.list false (x.map ak.enc)),.d (.list false (y.map ak.enc))]++caps) E0 (.ok (iA (c x y))) E0:=fun x y=>by rw[←hE0];exact hc.at ag L x y
 refine ah.aj (hint:=(fun _=>false)) Tryz.func184 (by kernel_rfl) rfl [] (by kernel_rfl) (by decide) (by simp[Tryz.ntmps184]) ?_
 rw[Tryz.ntmps184]
 obtain⟨y,rfl⟩:∃y,Y=[y]:=List.length_eq_one_iff.1 h2
 simp -implicitDefEqProofs only[↓reduceIte,go_sem,Nat.reduceLT,Nat.reduceEqDiff,w1,w2,show(((X.length:Nat):Int)=1)=False from eq_false (by omega),h2]
 refine br _ _ _ _ (fun(z:Nat×Nat) s H'=>H'=E0∧z.1≤z.2∧z.2≤X.length∧(z.1=0∨∃x,X[z.1-1]?=some x∧aW c y x=false)∧(z.2=X.length∨∃x,X[z.2]?=some x∧aW c y x=true)∧
  s 0= .sl id ag 0 n∧s 2=iA m∧s 4= .fn g caps∧s 14=iA ((a+z.1:Nat):Int)∧s 15=iA ((a+z.2:Nat):Int)) (fun z=>z.2-z.1) (0,X.length) (an.refl _ _) ?_ ?_
 ·refine⟨rfl,Nat.zero_le _,Nat.le_refl _,.inl rfl,.inl rfl,?_⟩
  simp -implicitDefEqProofs only[↓reduceIte,go_sem,Nat.reduceLT,Nat.reduceEqDiff,reduceCtorEq,show((a:Int)+((X.length:Nat):Int))=(m:Int) by omega,Nat.add_zero]
 ·rintro⟨i,j⟩ s H' ⟨rfl,hij,hj,hlo,hhi,t0,t2,t4,t14,t15⟩
  simp only at hij hj hlo hhi t14 t15
  obtain⟨i',hi'⟩:∃i',i'=a+i:=⟨_,rfl⟩
  obtain⟨j',hj'⟩:∃j',j'=a+j:=⟨_,rfl⟩
  rw[←hi']at t14
  rw[←hj']at t15
  have f1:((a:Int)+(i:Int))=(i':Int):=by omega
  have f2:((a:Int)+(j:Int))=(j':Int):=by omega
  by_cases hlt:i<j
  ·obtain⟨q,hq⟩:∃q,q=i'+j':=⟨_,rfl⟩
   have w3:IntKind.i64.wrap ((i':Int)+(j':Int))=(q:Int):=by rw[wrap64_in _ (by omega) (by omega)];omega
   have w4:=eR q (by omega)
   obtain⟨h,hh⟩:∃h,h=q/2:=⟨_,rfl⟩
   rw[←hh]at w4
   obtain⟨x,hx⟩:∃x,X[h-a]?=some x:=⟨_,List.getElem?_eq_getElem (show h-a<X.length by omega)⟩
   have gx:=aD (hLX _ _ hx)
   rw[show a+(h-a)=h by omega]at gx
   have gy:=aD (hLY 0 y rfl)
   rw[Nat.add_zero]at gy
   have hd:=hcE y x
   simp only[cS]at gx gy
   try simp only[cS,List.map_cons,List.map_nil]at hd
   have hln:h<n:=by omega
   have hmn:m<n:=by omega
   simp -implicitDefEqProofs only[↓reduceIte,go_sem,Nat.reduceLT,Nat.reduceEqDiff,Int.reduceLE,t14,t15,show((i':Int)<(j':Int))=True from eq_true (by omega),w3,w4]
   refine aR K.mixed (by kernel_rfl) ?_
   simp -implicitDefEqProofs only[↓reduceIte,go_sem,ae,Nat.reduceLT,Nat.reduceEqDiff,reduceCtorEq,t0,t2,t4,gh,gx,gy,hln,hmn]
   refine ab.ok hd ?_
   by_cases hcc:c y x<0
   ·simp -implicitDefEqProofs only[↓reduceIte,go_sem,Nat.reduceLT,Nat.reduceEqDiff,hcc]
    refine⟨_,_,(i,h-a),an.refl _ _,⟨rfl,by simp only;omega,by simp only;omega,hlo,.inr ⟨x,hx,by simp[aW,hcc]⟩,?_⟩,by simp only;omega⟩
    simp -implicitDefEqProofs only[↓reduceIte,go_sem,Nat.reduceLT,Nat.reduceEqDiff,reduceCtorEq,t0,t2,t4,t14,show((a:Int)+((h-a:Nat):Int))=(h:Int) by omega,f1]
   ·have hw5:IntKind.i64.wrap ((h:Int)+1)=((a+(h-a+1):Nat):Int):=by rw[wrap64_in _ (by omega) (by omega)];omega
    obtain⟨h2,hh2⟩:∃h2,h2=a+(h-a+1):=⟨_,rfl⟩
    rw[←hh2]at hw5
    simp -implicitDefEqProofs only[↓reduceIte,go_sem,Nat.reduceLT,Nat.reduceEqDiff,hcc,hw5]
    refine⟨_,_,(h-a+1,j),an.refl _ _,⟨rfl,by simp only;omega,hj,.inr ⟨x,by simpa using hx,by simp[aW,hcc]⟩,hhi,?_⟩,by simp only;omega⟩
    simp -implicitDefEqProofs only[↓reduceIte,go_sem,Nat.reduceLT,Nat.reduceEqDiff,reduceCtorEq,t0,t2,t4,t15,show((a:Int)+(((h-a:Nat):Int)+1))=(h2:Int) by omega,f2]
  ·obtain rfl:j=i:=by omega
   have hmg:=St.oq ho hX hj hhi hlo
   simp -implicitDefEqProofs only[↓reduceIte,go_sem,Nat.reduceLT,Nat.reduceEqDiff,t14,t15,show((i':Int)<(j':Int))=False from eq_false (by omega),t2]
   refine br _ _ _ _ (fun(k:Nat) s H'=>k≤X.length-j∧(∃Lk,H'=aH H id ag Lk∧Lk=P++X.take (j+k)++y::(X.drop (j+k)++Q))∧s 0= .sl id ag 0 n∧s 14=iA i'∧s 17=iA ((i':Int)+(k:Int))) (fun k=>k) (X.length-j) (an.refl _ _) ?_ ?_
   ·refine⟨Nat.le_refl _,⟨L,hE0.symm,?_⟩,?_⟩
    ·rw[show j+(X.length-j)=X.length by omega,List.take_length,List.drop_length,hL];simp
    ·simp -implicitDefEqProofs only[↓reduceIte,go_sem,Nat.reduceLT,Nat.reduceEqDiff,reduceCtorEq,t0,t14,show((i':Int)+((X.length-j:Nat):Int))=(m:Int) by omega]
   ·rintro k s H' ⟨hkx,⟨Lk,rfl,hLk⟩,t0,t14,t17⟩
    cases k with
    |zero=>
     simp -implicitDefEqProofs only[↓reduceIte,go_sem,Nat.reduceLT,Nat.reduceEqDiff,t14,t17,Int.add_zero,Int.lt_irrefl]
     have:Lk=L':=by rw[hLk,hL',Nat.add_zero,←hmg];simp
     rw[this]
     exact⟨_,an.refl _ _,rfl⟩
    |succ k=>
     have hkX:j+k<X.length:=by omega
     have e1:X.drop (j+k)=X[j+k]::X.drop (j+k+1):=List.drop_eq_getElem_cons hkX
     have e2:X.take (j+k+1)=X.take (j+k)++[X[j+k]]:=List.take_succ_eq_append_getElem hkX
     rw[show j+(k+1)=j+k+1 by omega,e2]at hLk
     have l1:(P++X.take (j+k)).length=i'+k:=by simp;omega
     obtain⟨u,hu⟩:∃u,u=i'+k:=⟨_,rfl⟩
     obtain⟨v,hv⟩:∃v,v=u+1:=⟨_,rfl⟩
     rw[←hu]at l1
     have fk:((i':Int)+((k+1:Nat):Int))=(v:Int):=by omega
     have fk2:((i':Int)+(k:Int))=(u:Int):=by omega
     rw[fk]at t17
     generalize X[j+k]=x at*
     generalize X.drop (j+k+1)=X1 at*
     obtain⟨g1,g2,_,g4,_,g6⟩:=gu (L:=Lk) (P:=P++X.take (j+k)) (x:=x) (y:=y) (R:=X1++Q) (by rw[hLk];simp) l1
     rw[←hv]at g2 g4 g6
     have hw7:IntKind.i64.wrap ((v:Int)-1)=(u:Int):=by rw[wrap64_in _ (by omega) (by omega)];omega
     have gg:=cf hid ag Lk
     have q1:=aD g1
     have q2:=aD g2
     have q4:=aD g4
     have s1:=b8 Lk v x
     have s2:=b8 (Lk.set v x) u y
     rw[g6]at s2
     have hun:u<n:=by omega
     have hvn:v<n:=by omega
     simp only[cS]at q1 q2 q4 s1 s2
     simp -implicitDefEqProofs only[↓reduceIte,go_sem,Nat.reduceLT,Nat.reduceEqDiff,t14,t17,show((i':Int)<(v:Int))=True from eq_true (by omega)]
     refine dE [false,false,false,false,false,false,false,false,false,false,false,false,false,false,true,true,true,true] 14 K.mixed (by kernel_rfl) (by kernel_rfl) (by kernel_rfl) ?_
     simp -implicitDefEqProofs only[↓reduceIte,go_sem,ae,aw,Nat.reduceLT,Nat.reduceEqDiff,reduceCtorEq,t0,t17,hw7,hun,hvn,gg,q1,q2,q4,s1,s2,dT,hid,List.getElem?_set_self,List.set_set]
     refine⟨_,_,k,an.refl _ _,⟨by omega,⟨_,by rw[←dp],by rw[e1];simp⟩,?_⟩,by omega⟩
     simp -implicitDefEqProofs only[↓reduceIte,go_sem,Nat.reduceLT,Nat.reduceEqDiff,reduceCtorEq,t0,t14,fk2]
end SR
end Go.Proofs.YtggohfhfocgilaaGreat
namespace Go.Proofs.YtggohfhfocgilaaGreat
open Go.Proofs.YtggohfhfocgilaaGreatAw Go.RowKit
namespace SR
def Hid(p:Prop):Prop:=p
theorem lk{a m b q mid n0 s0 r0 lx ly:Nat}(hm:a+lx=m)(hb:a+lx+ly=b)(hq:q=a+b)(hmid:mid=q/2)(hn0:n0=mid+m)(hs0:s0=if mid<m then n0-b else a)(hr0:r0=if mid<m then mid else m)(hx:0<lx)(hy:0<ly)(h1:¬lx=1):
  (s0≤r0∧a≤s0∧r0≤m∧r0≤mid)∧(n0≤b+s0∧mid<b∧a<mid)∧Hid (r0=m∨n0=m+r0)∧Hid (s0=a∨n0=b+s0)∧m+r0≤n0∧(mid<m→b≤n0):=by
 by_cases h:mid<m
 ·rw[if_pos h]at hs0 hr0;unfold Hid;omega
 ·rw[if_neg h]at hs0 hr0;unfold Hid;omega
theorem lW(H:aa)(id ag:Nat)(hid:id<H.length)(g:FuncId)(caps:List AV)(c:(List ak)→(List ak)→Int)(ho:St.Ord (aW c))(hc:dJ g caps c H id)(n:Nat)(hbig:n≤1000000000000)(P X Y Q L L':List (List ak))(a m b:Nat)
  (hL:L=P++X++Y++Q) (hL':L'=P++St.aG (aW c) (X++Y)++Q) (ha:P.length=a) (hm:P.length+X.length=m) (hb:P.length+X.length+Y.length=b) (hX0:0<X.length) (hY0:0<Y.length) (hX:St.au (aW c) X) (hY:St.au (aW c) Y) (hn:L.length=n) (h1:¬X.length=1) (h2:¬Y.length=1)
  (ih:∀(P' X' Y' Q' L1 L2:List (List ak)) (a' m' b':Nat),X'.length+Y'.length<X.length+Y.length→L1=P'++X'++Y'++Q'→L2=P'++St.aG (aW c) (X'++Y')++Q'→P'.length=a'→P'.length+X'.length=m'→P'.length+X'.length+Y'.length=b'→0<X'.length→0<Y'.length→
   St.au (aW c) X'→St.au (aW c) Y'→L1.length=n→ah Tryz.prog 184 [.sl id ag 0 n,iA a',iA m',iA b',.fn g caps] (aH H id ag L1) (.ok (.bq [])) (aH H id ag L2)):
  ah Tryz.prog 184 [.sl id ag 0 n,iA a,iA m,iA b,.fn g caps] (aH H id ag L) (.ok (.bq [])) (aH H id ag L'):=by
 have hnl:P.length+X.length+Y.length+Q.length=n:=by rw[←hn,hL];simp;omega
 have w1:IntKind.i64.wrap ((m:Int)-(a:Int))=((X.length:Nat):Int):=by rw[wrap64_in _ (by omega) (by omega)];omega
 have w2:IntKind.i64.wrap ((b:Int)-(m:Int))=((Y.length:Nat):Int):=by rw[wrap64_in _ (by omega) (by omega)];omega
 have hLX:=uW hL ha
 have hLY:=vI hL hm
 generalize hE0:aH H id ag L=E0
 have gh:=cf hid ag L
 rw[hE0]at gh
 have hcE:∀x y:(List ak),ah Tryz.prog g ([.d (.list false (x.map ak.enc)),.d (.list false (y.map ak.enc))]++caps) E0 (.ok (iA (c x y))) E0:=fun x y=>by rw[←hE0];exact hc.at ag L x y
 refine ah.aj (hint:=(fun _=>false)) Tryz.func184 (by kernel_rfl) rfl [] (by kernel_rfl) (by decide) (by simp[Tryz.ntmps184]) ?_
 rw[Tryz.ntmps184]
 obtain⟨q,hq⟩:∃q,q=a+b:=⟨_,rfl⟩
 obtain⟨mid,hmid⟩:∃mid,mid=q/2:=⟨_,rfl⟩
 obtain⟨n0,hn0⟩:∃n0,n0=mid+m:=⟨_,rfl⟩
 obtain⟨p,hp⟩:∃p,p=n0-1:=⟨_,rfl⟩
 have w3:IntKind.i64.wrap ((a:Int)+(b:Int))=(q:Int):=by rw[wrap64_in _ (by omega) (by omega)];omega
 have w4:=eR q (by omega)
 rw[←hmid]at w4
 have w5:IntKind.i64.wrap ((mid:Int)+(m:Int))=(n0:Int):=by rw[wrap64_in _ (by omega) (by omega)];omega
 have w6:IntKind.i64.wrap ((n0:Int)-1)=(p:Int):=by rw[wrap64_in _ (by omega) (by omega)];omega
 obtain⟨s0,hs0⟩:∃s0,s0=if mid<m then n0-b else a:=⟨_,rfl⟩
 obtain⟨r0,hr0⟩:∃r0,r0=if mid<m then mid else m:=⟨_,rfl⟩
 obtain⟨a1,a2,a3,a4,a5,a6⟩:=lk (by omega) (by omega) hq hmid hn0 hs0 hr0 hX0 hY0 h1
 have w7:mid<m→IntKind.i64.wrap ((n0:Int)-(b:Int))=(s0:Int):=fun h=>by have:=a6 h;rw[if_pos h]at hs0;rw[wrap64_in _ (by omega) (by omega)];omega
 simp -implicitDefEqProofs only[↓reduceIte,go_sem,Nat.reduceLT,Nat.reduceEqDiff,Int.reduceLE,w1,w2,show(((X.length:Nat):Int)=1)=False from eq_false (by omega),show(((Y.length:Nat):Int)=1)=False from eq_false (by omega),w3,w4,w5]
 refine dX (fun s H'=>H'=E0∧s 0= .sl id ag 0 n∧s 1=iA a∧s 2=iA m∧s 3=iA b∧s 4= .fn g caps∧s 18=iA mid∧s 19=iA n0∧s 20=iA s0∧s 21=iA r0) rfl ?_ ?_
 ·by_cases hmm:mid<m
  ·simp -implicitDefEqProofs only[↓reduceIte,go_sem,Nat.reduceLT,Nat.reduceEqDiff,reduceCtorEq,eq_true hmm,w7 hmm]
   rw[hr0,if_pos hmm]
  ·simp -implicitDefEqProofs only[↓reduceIte,go_sem,Nat.reduceLT,Nat.reduceEqDiff,reduceCtorEq,eq_false hmm]
   rw[hs0,hr0,if_neg hmm,if_neg hmm]
   exact⟨rfl,rfl⟩
 ·clear hs0 hr0 w3 w4 w5 w7 a6 hmid
  rintro s H' ⟨rfl,t0,t1,t2,t3,t4,t18,t19,t20,t21⟩
  simp -implicitDefEqProofs only[↓reduceIte,go_sem,Nat.reduceLT,t19,w6]
  refine fq (fun s H1=>H1=H'∧(∃st,s0≤st∧st≤r0∧Hid (st=s0∨∃x y,X[st-1-a]?=some x∧Y[n0-st-m]?=some y∧aW c y x=false)∧Hid (st=r0∨∃x y,X[st-a]?=some x∧Y[p-st-m]?=some y∧aW c y x=true)∧s 20=iA st)∧
   s 0= .sl id ag 0 n∧s 1=iA a∧s 2=iA m∧s 3=iA b∧s 4= .fn g caps∧s 18=iA mid∧s 19=iA n0) rfl ?_ ?_
  ·refine br _ _ _ _ (fun(z:Nat×Nat) s H1=>H1=H'∧s0≤z.1∧z.1≤z.2∧z.2≤r0∧Hid (z.1=s0∨∃x y,X[z.1-1-a]?=some x∧Y[n0-z.1-m]?=some y∧aW c y x=false)∧Hid (z.2=r0∨∃x y,X[z.2-a]?=some x∧Y[p-z.2-m]?=some y∧aW c y x=true)∧
    s 0= .sl id ag 0 n∧s 1=iA a∧s 2=iA m∧s 3=iA b∧s 4= .fn g caps∧s 18=iA mid∧s 19=iA n0∧s 20=iA z.1∧s 21=iA z.2∧s 22=iA p) (fun z=>z.2-z.1) (s0,r0) (an.refl _ _) ?_ ?_
   ·refine⟨rfl,Nat.le_refl _,a1.1,Nat.le_refl _,.inl rfl,.inl rfl,?_⟩
    simp -implicitDefEqProofs only[↓reduceIte,go_sem,Nat.reduceLT,Nat.reduceEqDiff,reduceCtorEq,t0,t1,t2,t3,t4,t18,t19,t20,t21]
   ·rintro⟨i,j⟩ s H1 ⟨rfl,hi0,hij,hj0,hlo,hhi,t0,t1,t2,t3,t4,t18,t19,t20,t21,t22⟩
    simp only at hi0 hij hj0 hlo hhi t20 t21
    by_cases hlt:i<j
    ·obtain⟨qq,hqq⟩:∃qq,qq=i+j:=⟨_,rfl⟩
     have v3:IntKind.i64.wrap ((i:Int)+(j:Int))=(qq:Int):=by rw[wrap64_in _ (by omega) (by omega)];omega
     have v4:=eR qq (by omega)
     obtain⟨h,hh⟩:∃h,h=qq/2:=⟨_,rfl⟩
     rw[←hh]at v4
     have hpc:m≤p-h∧p-h<b∧h<m∧a≤h:=by omega
     obtain⟨pc,hpc2⟩:∃pc,pc=p-h:=⟨_,rfl⟩
     have v5:IntKind.i64.wrap ((p:Int)-(h:Int))=(pc:Int):=by rw[wrap64_in _ (by omega) (by omega)];omega
     obtain⟨x,hx⟩:∃x,X[h-a]?=some x:=⟨_,List.getElem?_eq_getElem (show h-a<X.length by omega)⟩
     obtain⟨y,hy⟩:∃y,Y[pc-m]?=some y:=⟨_,List.getElem?_eq_getElem (show pc-m<Y.length by omega)⟩
     have gx:=aD (hLX _ _ hx)
     rw[show a+(h-a)=h by omega]at gx
     have gy:=aD (hLY _ _ hy)
     rw[show m+(pc-m)=pc by omega]at gy
     have hd:=hcE y x
     simp only[cS]at gx gy
     try simp only[cS,List.map_cons,List.map_nil]at hd
     have hln:h<n:=by omega
     have hpn:pc<n:=by omega
     simp -implicitDefEqProofs only[↓reduceIte,go_sem,Nat.reduceLT,Nat.reduceEqDiff,Int.reduceLE,t20,t21,eq_true hlt,v3,v4]
     refine aR K.mixed (by kernel_rfl) ?_
     simp -implicitDefEqProofs only[↓reduceIte,go_sem,ae,Nat.reduceLT,Nat.reduceEqDiff,reduceCtorEq,t0,t4,t22,gh,gx,gy,hln,hpn,v5]
     refine ab.ok hd ?_
     by_cases hcc:c y x<0
     ·simp -implicitDefEqProofs only[↓reduceIte,go_sem,Nat.reduceLT,Nat.reduceEqDiff,hcc]
      refine⟨_,_,(i,h),an.refl _ _,⟨rfl,hi0,by simp only;omega,by simp only;omega,hlo,.inr ⟨x,y,hx,by rw[←hpc2];exact hy,by simp[aW,hcc]⟩,?_⟩,by simp only;omega⟩
      simp -implicitDefEqProofs only[↓reduceIte,go_sem,Nat.reduceLT,Nat.reduceEqDiff,reduceCtorEq,t0,t1,t2,t3,t4,t18,t19,t20,t22]
     ·have v6:IntKind.i64.wrap ((h:Int)+1)=(h:Int)+1:=wrap64_in _ (by omega) (by omega)
      simp -implicitDefEqProofs only[↓reduceIte,go_sem,Nat.reduceLT,Nat.reduceEqDiff,hcc,v6]
      refine⟨_,_,(h+1,j),an.refl _ _,⟨rfl,by simp only;omega,by simp only;omega,hj0,.inr ⟨x,y,by simpa using hx,by rw[show n0-(h+1)-m=pc-m by omega];exact hy,by simp[aW,hcc]⟩,hhi,?_⟩,by simp only;omega⟩
      simp -implicitDefEqProofs only[↓reduceIte,go_sem,Nat.reduceLT,Nat.reduceEqDiff,reduceCtorEq,t0,t1,t2,t3,t4,t18,t19,t21,t22]
    ·obtain rfl:j=i:=by omega
     simp -implicitDefEqProofs only[↓reduceIte,go_sem,Nat.reduceLT,Nat.reduceEqDiff,reduceCtorEq,t20,t21,Nat.lt_irrefl]
     exact⟨⟨j,hi0,hj0,hlo,hhi,rfl⟩,t0,t1,t2,t3,t4,t18,t19⟩
  ·rintro s H1 ⟨rfl,⟨st,hst0,hst1,hlo,hhi,t20⟩,t0,t1,t2,t3,t4,t18,t19⟩
   clear w6
   obtain⟨e,he⟩:∃e,e=n0-st:=⟨_,rfl⟩
   obtain⟨sX,hsX⟩:∃sX,sX=st-a:=⟨_,rfl⟩
   obtain⟨eY,heY⟩:∃eY,eY=e-m:=⟨_,rfl⟩
   have w8:IntKind.i64.wrap ((n0:Int)-(st:Int))=(e:Int):=by rw[wrap64_in _ (by omega) (by omega)];omega
   have b1:sX≤X.length∧eY≤Y.length∧m≤e∧e≤b∧mid=st+eY∧e=mid+(m-st):=by omega
   have hcut:=St.lT ho hX hY (s:=sX) (e:=eY) b1.1 b1.2.1 ?_ ?_
   rotate_left
   ·rcases hhi with h|⟨x,y,hx,hy,h⟩
    ·rcases a3 with h3|h3
     ·exact .inl (by omega)
     ·exact .inr (.inl (by omega))
    ·exact .inr (.inr ⟨x,y,by rw[hsX];exact hx,by rw[show eY-1=p-st-m by omega];exact hy,h⟩)
   ·rcases hlo with h|⟨x,y,hx,hy,h⟩
    ·rcases a4 with h4|h4
     ·exact .inl (by omega)
     ·exact .inr (.inl (by omega))
    ·exact .inr (.inr ⟨x,y,by rw[show sX-1=st-1-a by omega];exact hx,by rw[show eY=n0-st-m by omega];exact hy,h⟩)
   have hXs:=hX
   have hYs:=hY
   have eX:X.take sX++X.drop sX=X:=List.take_append_drop _ _
   have eY':Y.take eY++Y.drop eY=Y:=List.take_append_drop _ _
   have lA:(X.take sX).length=sX:=by rw[List.length_take];omega
   have lU:(X.drop sX).length=X.length-sX:=List.length_drop
   have lV:(Y.take eY).length=eY:=by rw[List.length_take];omega
   have lB:(Y.drop eY).length=Y.length-eY:=List.length_drop
   rw[←eX]at hXs
   rw[←eY']at hYs
   have sA:=hXs.left
   have sU:=hXs.right
   have sV:=hYs.left
   have sB:=hYs.right
   clear hXs hYs hlo hhi a3 a4
   generalize hA:X.take sX=A at*
   generalize hU:X.drop sX=U at*
   generalize hV:Y.take eY=V at*
   generalize hB:Y.drop eY=B at*
   have hLL:L=P++A++U++V++(B++Q):=by rw[hL,←eX,←eY'];simp
   obtain⟨L1,hL1⟩:∃L1,L1=P++A++V++U++(B++Q):=⟨_,rfl⟩
   obtain⟨L2,hL2⟩:∃L2,L2=P++St.aG (aW c) (A++V)++U++B++Q:=⟨_,rfl⟩
   have hL3:L'=P++St.aG (aW c) (A++V)++St.aG (aW c) (U++B)++Q:=by rw[hL',←hcut];simp
   have n1:L1.length=n:=by rw[←hn,hLL,hL1];simp;omega
   have n2:L2.length=n:=by rw[←hn,hLL,hL2];simp[St.aX];omega
   rw[dq]
   refine fJ (fun s H2=>H2=aH H id ag L∧s 0= .sl id ag 0 n∧s 1=iA a∧s 2=iA m∧s 3=iA b∧s 4= .fn g caps∧s 18=iA mid∧s 20=iA st∧s 24=iA e) rfl (by simp -implicitDefEqProofs only[↓reduceIte,go_sem,Nat.reduceLT,Nat.reduceEqDiff,reduceCtorEq,t0,t1,t2,t3,t4,t18,t19,t20,w8,hE0]) ?_
   rintro s H2 ⟨rfl,t0,t1,t2,t3,t4,t18,t20,t24⟩
   rw[dq]
   refine fJ (fun s H2=>H2=aH H id ag L1∧s 0= .sl id ag 0 n∧s 1=iA a∧s 2=iA m∧s 3=iA b∧s 4= .fn g caps∧s 18=iA mid∧s 20=iA st∧s 24=iA e) rfl ?_ ?_
   ·have same:U=[]∨V=[]→aH H id ag L=aH H id ag L1:=fun h=>by
     rw[hL1,hLL];rcases h with rfl|rfl<;>simp
    by_cases c1:st<m
    ·by_cases c2:m<e
     ·simp -implicitDefEqProofs only[↓reduceIte,go_sem,Nat.reduceLT,Nat.reduceEqDiff,reduceCtorEq,t2,t20,t24,eq_true c1,eq_true c2]
      simp -implicitDefEqProofs only[go_sem,t0,t4]
      refine ab.ok (ja H id ag hid g caps (P++A) U V (B++Q) L L1 hLL (by rw[hL1]) st m e n (by simp;omega) (by simp;omega) (by simp;omega) (by omega) (by omega) hn hbig) ?_
      simp -implicitDefEqProofs only[↓reduceIte,go_sem,Nat.reduceEqDiff,reduceCtorEq,t0,t1,t2,t3,t4,t18,t20,t24]
     ·simp -implicitDefEqProofs only[↓reduceIte,go_sem,Nat.reduceLT,Nat.reduceEqDiff,reduceCtorEq,t2,t20,t24,eq_true c1,eq_false c2]
      simp -implicitDefEqProofs only[go_sem,t0,t1,t3,t4,t18]
      exact same (.inr (List.eq_nil_of_length_eq_zero (by omega)))
    ·simp -implicitDefEqProofs only[↓reduceIte,go_sem,Nat.reduceLT,Nat.reduceEqDiff,reduceCtorEq,t2,t20,t24,eq_false c1]
     simp -implicitDefEqProofs only[go_sem,t0,t1,t3,t4,t18]
     exact same (.inl (List.eq_nil_of_length_eq_zero (by omega)))
   rintro s H2 ⟨rfl,t0,t1,t2,t3,t4,t18,t20,t24⟩
   rw[dq]
   refine fJ (fun s H2=>H2=aH H id ag L2∧s 0= .sl id ag 0 n∧s 3=iA b∧s 4= .fn g caps∧s 18=iA mid∧s 24=iA e) rfl ?_ ?_
   ·have same:A=[]∨V=[]→aH H id ag L1=aH H id ag L2:=fun h=>by
     have:St.aG (aW c) (A++V)=A++V:=by
      rcases h with rfl|rfl
      ·simpa using St.cr ho sV
      ·simpa using St.cr ho sA
     rw[hL1,hL2,this];simp
    by_cases c1:a<st
    ·by_cases c2:st<mid
     ·simp -implicitDefEqProofs only[↓reduceIte,go_sem,Nat.reduceLT,Nat.reduceEqDiff,reduceCtorEq,t1,t18,t20,eq_true c1,eq_true c2]
      simp -implicitDefEqProofs only[go_sem,t0,t4]
      refine ab.ok (ih P A V (U++(B++Q)) L1 L2 a st mid (by omega) (by rw[hL1];simp) (by rw[hL2];simp) ha (by omega) (by omega) (by omega) (by omega) sA sV n1) ?_
      simp -implicitDefEqProofs only[↓reduceIte,go_sem,Nat.reduceEqDiff,reduceCtorEq,t0,t3,t4,t18,t24]
     ·simp -implicitDefEqProofs only[↓reduceIte,go_sem,Nat.reduceLT,Nat.reduceEqDiff,reduceCtorEq,t1,t18,t20,eq_true c1,eq_false c2]
      simp -implicitDefEqProofs only[go_sem,t0,t3,t4,t24]
      exact same (.inr (List.eq_nil_of_length_eq_zero (by omega)))
    ·simp -implicitDefEqProofs only[↓reduceIte,go_sem,Nat.reduceLT,Nat.reduceEqDiff,reduceCtorEq,t1,t18,t20,eq_false c1]
     simp -implicitDefEqProofs only[go_sem,t0,t3,t4,t24]
     exact same (.inl (List.eq_nil_of_length_eq_zero (by omega)))
   rintro s H2 ⟨rfl,t0,t3,t4,t18,t24⟩
   have same:U=[]∨B=[]→aH H id ag L2=aH H id ag L':=fun h=>by
    have:St.aG (aW c) (U++B)=U++B:=by
     rcases h with rfl|rfl
     ·simpa using St.cr ho sB
     ·simpa using St.cr ho sU
    rw[hL2,hL3,this];simp
   by_cases c1:mid<e
   ·by_cases c2:e<b
    ·simp -implicitDefEqProofs only[↓reduceIte,go_sem,Nat.reduceLT,Nat.reduceEqDiff,reduceCtorEq,t3,t18,t24,eq_true c1,eq_true c2]
     simp -implicitDefEqProofs only[go_sem,t0,t4]
     have lS:=St.aX (lt:=aW c) (A++V)
     rw[List.length_append]at lS
     refine ab.ok (ih (P++St.aG (aW c) (A++V)) U B Q L2 L' mid e b (by omega) (by rw[hL2]) (by rw[hL3]) (by simp;omega) (by simp;omega) (by simp;omega) (by omega) (by omega) sU sB n2) ?_
     simp -implicitDefEqProofs only[go_sem]
     exact⟨_,an.refl _ _,rfl⟩
    ·simp -implicitDefEqProofs only[↓reduceIte,go_sem,Nat.reduceLT,Nat.reduceEqDiff,t3,t18,t24,eq_true c1,eq_false c2]
     rw[same (.inr (List.eq_nil_of_length_eq_zero (by omega)))]
     exact⟨_,an.refl _ _,rfl⟩
   ·simp -implicitDefEqProofs only[↓reduceIte,go_sem,Nat.reduceLT,Nat.reduceEqDiff,reduceCtorEq,t18,t24,eq_false c1]
    rw[same (.inl (List.eq_nil_of_length_eq_zero (by omega)))]
    exact⟨_,an.refl _ _,rfl⟩
end SR
end Go.Proofs.YtggohfhfocgilaaGreat
namespace Go.Proofs.YtggohfhfocgilaaGreat
namespace St
variable {α:Type} {lt:α→α→Bool}
def ez(s j:Nat)(l:List α):List α:=(l.drop (j* s)).take s
theorem xL{s j k:Nat}{P R:List α}(hP:P.length=k* s)(hj:j<k):ez s j (P++R)=(P.drop (j* s)).take s:=by
 have h1:(j+1)* s≤k* s:=Nat.mul_le_mul_right s hj
 rw[Nat.add_mul,Nat.one_mul]at h1
 unfold ez
 rw[List.drop_append_of_le_length (by omega),List.take_append_of_le_length (by rw[List.length_drop];omega)]
theorem Dz{s k:Nat}{P X Q:List α}(hP:P.length=k* s)(hX:X.length=s∨X.length≤s∧Q=[]):ez s k (P++X++Q)=X:=by
 unfold ez
 rw[List.append_assoc,←hP,List.drop_left]
 rcases hX with h|⟨h,rfl⟩
 ·rw[←h,List.take_left]
 ·rw[List.append_nil,List.take_of_length_le h]
theorem mz{P X Q:List α}{i:Nat}(h:P.length+X.length≤i):(P++X++Q).drop i=Q.drop (i-(P.length+X.length)):=by
 rw[List.drop_append,List.drop_of_length_le (by rw[List.length_append];exact h),List.nil_append,List.length_append]
theorem n4{s j:Nat}{P X X' Q:List α}(hX:X.length=X'.length)(h:P.length+X.length≤j* s):ez s j (P++X++Q)=ez s j (P++X'++Q):=by
 unfold ez
 rw[mz h,mz (by omega),hX]
theorem mR{s j:Nat}{l:List α}(h:l.length≤j* s):ez s j l=[]:=by
 unfold ez
 rw[List.drop_of_length_le h,List.take_nil]
theorem eC(ho:Ord lt){s k:Nat}{P X Q:List α}(hP:P.length=k* s)(h:∀j,j<k→au lt (ez s j (P++X++Q)))(hX:X.length=s∨X.length≤s∧Q=[]):∀j,j<k+1→au lt (ez s j (P++aG lt X++Q)):=by
 intro j hj
 rcases Nat.lt_or_ge j k with h1|h1
 ·have:=h j h1
  rw[List.append_assoc,xL hP h1]at this⊢
  exact this
 ·obtain rfl:j=k:=by omega
  rw[Dz hP (by rw[aX];exact hX)]
  exact cc ho X
theorem dC(ho:Ord lt)(P X Q:List α):bD lt (P++aG lt X++Q) (P++X++Q):=bD.app (bD.app (.refl _) (dt ho X)) (.refl _)
theorem Dk(l:List α)(a s:Nat):l.take a++(l.drop a).take s++l.drop (a+s)=l:=by
 rw[List.append_assoc,←List.drop_drop,List.take_append_drop,List.take_append_drop]
theorem CC(l:List α)(a s t:Nat):l.take a++(l.drop a).take s++(l.drop (a+s)).take t++l.drop (a+s+t)=l:=by
 have e:(l.drop (a+s)).take t++l.drop (a+s+t)=l.drop (a+s):=by
  have:=List.take_append_drop t (l.drop (a+s))
  rwa[List.drop_drop]at this
 rw[List.append_assoc,e,Dk]
end St
end Go.Proofs.YtggohfhfocgilaaGreat
namespace Go.Proofs.YtggohfhfocgilaaGreat
open Go.Proofs.YtggohfhfocgilaaGreatAw Go.RowKit
namespace SR
theorem dm(H:aa)(id ag:Nat)(hid:id<H.length)(g:FuncId)(caps:List AV)(c:(List ak)→(List ak)→Int)(ho:St.Ord (aW c))(hc:dJ g caps c H id)(n:Nat)(hbig:n≤1000000000000):∀(N:Nat) (P X Y Q L L':List (List ak)) (a m b:Nat),X.length+Y.length≤N→
  L=P++X++Y++Q→L'=P++St.aG (aW c) (X++Y)++Q→P.length=a→P.length+X.length=m→P.length+X.length+Y.length=b→0<X.length→0<Y.length→St.au (aW c) X→St.au (aW c) Y→L.length=n→
  ah Tryz.prog 184 [.sl id ag 0 n,iA a,iA m,iA b,.fn g caps] (aH H id ag L) (.ok (.bq [])) (aH H id ag L'):=by
 intro N
 induction N with
 |zero=>intros;omega
 |succ N ih=>
  intro P X Y Q L L' a m b hN hL hL' ha hm hb hX0 hY0 hX hY hn
  by_cases h1:X.length=1
  ·exact l7 H id ag hid g caps c ho hc n hbig P X Y Q L L' a m b hL hL' ha hm hb hX0 hY0 hX hY hn h1
  ·by_cases h2:Y.length=1
   ·exact l6 H id ag hid g caps c ho hc n hbig P X Y Q L L' a m b hL hL' ha hm hb hX0 hY0 hX hY hn h1 h2
   ·exact lW H id ag hid g caps c ho hc n hbig P X Y Q L L' a m b hL hL' ha hm hb hX0 hY0 hX hY hn h1 h2 fun P' X' Y' Q' L1 L2 a' m' b' hlt=>ih P' X' Y' Q' L1 L2 a' m' b' (by omega)
theorem iP(H:aa)(id ag:Nat)(hid:id<H.length)(g:FuncId)(caps:List AV)(c:(List ak)→(List ak)→Int)(ho:St.Ord (aW c))(hc:dJ g caps c H id)(n:Nat)(hbig:n≤100000000000)(L:List (List ak))(hn:L.length=n):
  ah Tryz.prog 152 [.sl id ag 0 n,iA n,.fn g caps] (aH H id ag L) (.ok (.bq [])) (aH H id ag (St.aG (aW c) L)):=by
 generalize hE0:aH H id ag L=E0
 generalize hE1:aH H id ag (St.aG (aW c) L)=E1
 refine ah.aj (hint:=(fun _=>false)) Tryz.func152 (by kernel_rfl) rfl [] (by kernel_rfl) (by decide) (by simp[Tryz.ntmps152]) ?_
 rw[Tryz.ntmps152]
 simp -implicitDefEqProofs only[↓reduceIte,go_sem,Nat.reduceLT,Nat.reduceEqDiff]
 refine fq (fun s H'=>(∃Lk,H'=aH H id ag Lk∧St.bD (aW c) Lk L∧Lk.length=n∧(∃k,k* 20≤n∧n<(k+1)* 20∧(∀j,j<k→St.au (aW c) (St.ez 20 j Lk))∧s 7=iA ((k* 20:Nat):Int)))∧s 0= .sl id ag 0 n∧s 1=iA n∧s 2= .fn g caps∧s 6=iA 20) rfl ?_ ?_
 ·refine br _ _ _ _ (fun(k:Nat) s H'=>k* 20≤n∧(∃Lk,H'=aH H id ag Lk∧St.bD (aW c) Lk L∧Lk.length=n∧∀j,j<k→St.au (aW c) (St.ez 20 j Lk))∧s 0= .sl id ag 0 n∧s 1=iA n∧s 2= .fn g caps∧s 6=iA 20∧s 7=iA ((k* 20:Nat):Int)∧s 8=iA (((k+1)* 20:Nat):Int)) (fun k=>n-k) 0 (an.refl _ _) ?_ ?_
  ·refine⟨by omega,⟨L,hE0.symm,.refl _,hn,fun j hj=>by omega⟩,?_⟩
   simp -implicitDefEqProofs only[↓reduceIte,go_sem,Nat.reduceLT,Nat.reduceEqDiff,reduceCtorEq]
  ·rintro k s H' ⟨hk,⟨Lk,rfl,hst,hlen,hso⟩,t0,t1,t2,t6,t7,t8⟩
   obtain⟨a,ha⟩:∃a,a=k* 20:=⟨_,rfl⟩
   obtain⟨b,hb⟩:∃b,b=(k+1)* 20:=⟨_,rfl⟩
   rw[←ha]at t7
   rw[←hb]at t8
   by_cases hbn:b≤n
   ·obtain⟨P,hP⟩:∃P,P=Lk.take a:=⟨_,rfl⟩
    obtain⟨X,hX⟩:∃X,X=(Lk.drop a).take 20:=⟨_,rfl⟩
    obtain⟨Q,hQ⟩:∃Q,Q=Lk.drop (a+20):=⟨_,rfl⟩
    have hc3:Lk=P++X++Q:=by rw[hP,hX,hQ,St.Dk]
    have lP:P.length=a:=by rw[hP,List.length_take];omega
    have lX:X.length=20:=by rw[hX,List.length_take,List.length_drop];omega
    obtain⟨L1,hL1⟩:∃L1,L1=P++St.aG (aW c) X++Q:=⟨_,rfl⟩
    have lL1:L1.length=n:=by rw[hL1,←hlen,hc3];simp[St.aX]
    have hso1:∀j,j<k+1→St.au (aW c) (St.ez 20 j L1):=by
     rw[hL1];exact St.eC ho (by omega) (by rw[←hc3];exact hso) (.inl lX)
    have hst1:St.bD (aW c) L1 L:=by
     refine St.bD.trans ?_ hst
     rw[hL1,hc3];exact St.dC ho P X Q
    have w1:IntKind.i64.wrap ((b:Int)+20)=(((k+1+1)* 20:Nat):Int):=by rw[wrap64_in _ (by omega) (by omega)];omega
    obtain⟨b2,hb2⟩:∃b2,b2=(k+1+1)* 20:=⟨_,rfl⟩
    rw[←hb2]at w1
    simp -implicitDefEqProofs only[↓reduceIte,go_sem,Nat.reduceLT,Nat.reduceEqDiff,reduceCtorEq,t1,t8,eq_true hbn]
    simp -implicitDefEqProofs only[go_sem,t0,t2,t7]
    refine ab.ok (dS H id ag hid g caps c ho hc P X Q Lk L1 hc3 hL1 a b n lP (by omega) hlen (by omega)) ?_
    simp -implicitDefEqProofs only[↓reduceIte,go_sem,Nat.reduceLT,Nat.reduceEqDiff,t6,t8,w1]
    refine⟨_,_,k+1,an.refl _ _,⟨by omega,⟨L1,rfl,hst1,lL1,hso1⟩,?_⟩,by omega⟩
    rw[←hb,←hb2]
    simp -implicitDefEqProofs only[↓reduceIte,go_sem,Nat.reduceLT,Nat.reduceEqDiff,reduceCtorEq,t0,t1,t2,t6]
   ·simp -implicitDefEqProofs only[↓reduceIte,go_sem,Nat.reduceLT,Nat.reduceEqDiff,reduceCtorEq,t1,t8,eq_false hbn]
    refine⟨⟨Lk,rfl,hst,hlen,k,by omega,by omega,hso,?_⟩,?_⟩
    ·rw[←ha];simp -implicitDefEqProofs only[go_sem,t7]
    ·simp -implicitDefEqProofs only[go_sem,t0,t2,t6]
 rintro s H' ⟨⟨Lk,rfl,hst,hlen,k,hk1,hk2,hso,t7⟩,t0,t1,t2,t6⟩
 obtain⟨a,ha⟩:∃a,a=k* 20:=⟨_,rfl⟩
 rw[←ha]at t7
 have hc3:Lk=Lk.take a++Lk.drop a++[]:=by simp
 obtain⟨L1,hL1⟩:∃L1,L1=Lk.take a++St.aG (aW c) (Lk.drop a)++[]:=⟨_,rfl⟩
 have lP:(Lk.take a).length=a:=by rw[List.length_take];omega
 have lX:(Lk.drop a).length=n-a:=by rw[List.length_drop];omega
 have lL1:L1.length=n:=by rw[hL1];simp only[List.length_append,St.aX,lP,lX,List.length_nil];omega
 have hst1:St.bD (aW c) L1 L:=by
  refine St.bD.trans ?_ hst
  rw[hL1]
  have:=St.dC ho (Lk.take a) (Lk.drop a) []
  rwa[←hc3]at this
 have hb1:∀j,St.au (aW c) (St.ez 20 j L1):=by
  intro j
  rcases Nat.lt_or_ge j (k+1)with h|h
  ·rw[hL1]
   exact St.eC ho (by omega) (by rw[←hc3];exact hso) (.inr ⟨by omega,rfl⟩) j h
  ·have:=Nat.mul_le_mul_right 20 h
   rw[St.mR (by omega)]
   exact List.Pairwise.nil
 simp -implicitDefEqProofs only[↓reduceIte,go_sem,Nat.reduceLT,Nat.reduceEqDiff,t0,t1,t2,t7]
 refine ab.ok (dS H id ag hid g caps c ho hc _ _ _ Lk L1 hc3 hL1 a n n lP (by omega) hlen (by omega)) ?_
 clear hc3 hL1 lP lX hst hso hlen
 simp -implicitDefEqProofs only[go_sem]
 refine br _ _ _ _ (fun(z:Nat) s H'=>20≤z∧z≤2* n+20∧(∃Lk,H'=aH H id ag Lk∧St.bD (aW c) Lk L∧Lk.length=n∧∀j,St.au (aW c) (St.ez z j Lk))∧s 0= .sl id ag 0 n∧s 1=iA n∧s 2= .fn g caps∧s 6=iA z) (fun z=>n-z) 20 (an.refl _ _) ?_ ?_
 ·refine⟨Nat.le_refl _,by omega,⟨L1,rfl,hst1,lL1,hb1⟩,?_⟩
  simp -implicitDefEqProofs only[↓reduceIte,go_sem,Nat.reduceEqDiff,reduceCtorEq,t0,t1,t2,t6]
 clear hb1 hst1 lL1 t0 t1 t2 t6 t7 hk1 hk2 ha
 rintro z s H' ⟨hz1,hz2,⟨Lk,rfl,hst,hlen,hbl⟩,t0,t1,t2,t6⟩
 by_cases hzn:z<n
 ·have w1:IntKind.i64.wrap (2* (z:Int))=((2* z:Nat):Int):=by rw[wrap64_in _ (by omega) (by omega)];omega
  have w1':IntKind.i64.wrap ((z:Int)* 2)=((2* z:Nat):Int):=by rw[wrap64_in _ (by omega) (by omega)];omega
  obtain⟨y,hy⟩:∃y,y=2* z:=⟨_,rfl⟩
  rw[←hy]at w1 w1'
  simp -implicitDefEqProofs only[↓reduceIte,go_sem,Nat.reduceLT,Nat.reduceEqDiff,t1,t6,eq_true hzn,w1]
  refine fq (fun s H'=>(∃Lk,H'=aH H id ag Lk∧St.bD (aW c) Lk L∧Lk.length=n∧∃k a,a=k* y∧a=2* k* z∧a≤n∧n<a+y∧(∀j,j<k→St.au (aW c) (St.ez y j Lk))∧(∀j,2* k≤j→St.au (aW c) (St.ez z j Lk))∧s 7=iA a)∧s 0= .sl id ag 0 n∧s 1=iA n∧s 2= .fn g caps∧s 6=iA z) rfl ?_ ?_
  ·refine br _ _ _ _ (fun(k:Nat) s H'=>(∃a,a=k* y∧a=2* k* z∧a≤n∧s 7=iA a∧s 8=iA ((a+y:Nat):Int))∧(∃Lk,H'=aH H id ag Lk∧St.bD (aW c) Lk L∧Lk.length=n∧(∀j,j<k→St.au (aW c) (St.ez y j Lk))∧(∀j,2* k≤j→St.au (aW c) (St.ez z j Lk)))∧s 0= .sl id ag 0 n∧s 1=iA n∧s 2= .fn g caps∧s 6=iA z) (fun k=>n+1-k* y) 0 (an.refl _ _) ?_ ?_
   ·refine⟨⟨0,by omega,by omega,by omega,?_⟩,⟨Lk,rfl,hst,hlen,fun j hj=>by omega,fun j _=>hbl j⟩,?_⟩
    ·simp -implicitDefEqProofs only[↓reduceIte,go_sem,Nat.reduceLT,Nat.reduceEqDiff,Nat.zero_add]
    ·simp -implicitDefEqProofs only[↓reduceIte,go_sem,Nat.reduceEqDiff,reduceCtorEq,t0,t1,t2,t6]
   clear hst hlen hbl Lk t0 t1 t2 t6
   rintro k s H' ⟨⟨a,ha,ha2,han,t7,t8⟩,⟨Lk,rfl,hst,hlen,hso,hso2⟩,t0,t1,t2,t6⟩
   obtain⟨b,hb⟩:∃b,b=a+y:=⟨_,rfl⟩
   rw[←hb]at t8
   have hk1:(k+1)* y=a+y:=by rw[Nat.add_mul,←ha,Nat.one_mul]
   have hk2:2* (k+1)* z=a+2* z:=by rw[Nat.mul_add,Nat.add_mul,←ha2]
   have hk3:(2* k+1)* z=a+z:=by rw[Nat.add_mul,←ha2,Nat.one_mul]
   by_cases hbn:b≤n
   ·obtain⟨P,hP⟩:∃P,P=Lk.take a:=⟨_,rfl⟩
    obtain⟨X,hX⟩:∃X,X=(Lk.drop a).take z:=⟨_,rfl⟩
    obtain⟨Y,hY⟩:∃Y,Y=(Lk.drop (a+z)).take z:=⟨_,rfl⟩
    obtain⟨Q,hQ⟩:∃Q,Q=Lk.drop (a+z+z):=⟨_,rfl⟩
    have hc4:Lk=P++X++Y++Q:=by rw[hP,hX,hY,hQ,St.CC]
    have hc5:Lk=P++(X++Y)++Q:=by rw[hc4];simp
    have lP:P.length=a:=by rw[hP,List.length_take];omega
    have lX:X.length=z:=by rw[hX,List.length_take,List.length_drop];omega
    have lY:Y.length=z:=by rw[hY,List.length_take,List.length_drop];omega
    have lXY:(X++Y).length=y:=by rw[List.length_append];omega
    have sX:St.au (aW c) X:=by have:=hso2 (2* k) (Nat.le_refl _);rw[St.ez,←ha2,←hX]at this;exact this
    have sY:St.au (aW c) Y:=by have:=hso2 (2* k+1) (by omega);rw[St.ez,hk3,←hY]at this;exact this
    obtain⟨L1,hL1⟩:∃L1,L1=P++St.aG (aW c) (X++Y)++Q:=⟨_,rfl⟩
    have lL1:L1.length=n:=by rw[hL1,←hlen,hc5];simp[St.aX];try omega
    have hst1:St.bD (aW c) L1 L:=by
     refine St.bD.trans ?_ hst
     rw[hL1,hc5];exact St.dC ho P (X++Y) Q
    have hso1:∀j,j<k+1→St.au (aW c) (St.ez y j L1):=by
     rw[hL1];exact St.eC ho (by omega) (by rw[←hc5];exact hso) (.inl lXY)
    have hso3:∀j,2* (k+1)≤j→St.au (aW c) (St.ez z j L1):=fun j hj=>by
     have h1:=Nat.mul_le_mul_right z hj
     rw[hL1,St.n4 (X':=X++Y) (St.aX _) (by rw[St.aX,lXY,lP];omega),←hc5]
     exact hso2 j (by omega)
    clear hP hX hY hQ hst hso hso2
    obtain⟨m,hm⟩:∃m,m=a+z:=⟨_,rfl⟩
    obtain⟨b2,hb2⟩:∃b2,b2=b+y:=⟨_,rfl⟩
    have w2:IntKind.i64.wrap ((a:Int)+(z:Int))=(m:Int):=by rw[wrap64_in _ (by omega) (by omega)];omega
    have w3:IntKind.i64.wrap ((b:Int)+(y:Int))=(b2:Int):=by rw[wrap64_in _ (by omega) (by omega)];omega
    simp -implicitDefEqProofs only[↓reduceIte,go_sem,Nat.reduceLT,Nat.reduceEqDiff,reduceCtorEq,t1,t8,eq_true hbn]
    simp -implicitDefEqProofs only[↓reduceIte,go_sem,Nat.reduceLT,Nat.reduceEqDiff,t0,t2,t6,t7,t8,w2]
    refine ab.ok (dm H id ag hid g caps c ho hc n (by omega) _ P X Y Q Lk L1 a m b (Nat.le_refl _) hc4 hL1 lP (by omega) (by omega) (by omega) (by omega) sX sY hlen) ?_
    simp -implicitDefEqProofs only[↓reduceIte,go_sem,Nat.reduceLT,Nat.reduceEqDiff,t6,t8,w1,w3]
    refine⟨_,_,k+1,an.refl _ _,⟨⟨b,by omega,by omega,hbn,?_⟩,⟨L1,rfl,hst1,lL1,hso1,hso3⟩,?_⟩,by omega⟩
    ·simp -implicitDefEqProofs only[↓reduceIte,go_sem,Nat.reduceLT,Nat.reduceEqDiff,show((b:Int)+(y:Int))=(b2:Int) by omega]
    ·simp -implicitDefEqProofs only[↓reduceIte,go_sem,Nat.reduceEqDiff,reduceCtorEq,t0,t1,t2,t6]
   ·simp -implicitDefEqProofs only[↓reduceIte,go_sem,Nat.reduceLT,Nat.reduceEqDiff,reduceCtorEq,t1,t8,eq_false hbn]
    refine⟨⟨Lk,rfl,hst,hlen,k,a,ha,ha2,han,by omega,hso,hso2,?_⟩,?_⟩
    ·simp -implicitDefEqProofs only[go_sem,t7]
    ·simp -implicitDefEqProofs only[go_sem,t0,t2,t6]
  clear hst hlen hbl Lk t0 t1 t2 t6
  rintro s H' ⟨⟨Lk,rfl,hst,hlen,k,a,ha,ha2,han,hna,hso,hso2,t7⟩,t0,t1,t2,t6⟩
  have hk3:(2* k+1)* z=a+z:=by rw[Nat.add_mul,←ha2,Nat.one_mul]
  have hk1:(k+1)* y=a+y:=by rw[Nat.add_mul,←ha,Nat.one_mul]
  obtain⟨m,hm⟩:∃m,m=a+z:=⟨_,rfl⟩
  have w2:IntKind.i64.wrap ((a:Int)+(z:Int))=(m:Int):=by rw[wrap64_in _ (by omega) (by omega)];omega
  have all:∀L1:List (List ak),L1.length=n→(∀j,j<k+1→St.au (aW c) (St.ez y j L1))→∀j,St.au (aW c) (St.ez y j L1):=fun L1 hl h j=>by
   rcases Nat.lt_or_ge j (k+1)with h1|h1
   ·exact h j h1
   ·have:=Nat.mul_le_mul_right y h1
    rw[St.mR (by omega)]
    exact List.Pairwise.nil
  by_cases hmn:m<n
  ·obtain⟨P,hP⟩:∃P,P=Lk.take a:=⟨_,rfl⟩
   obtain⟨X,hX⟩:∃X,X=(Lk.drop a).take z:=⟨_,rfl⟩
   obtain⟨Y,hY⟩:∃Y,Y=(Lk.drop (a+z)).take z:=⟨_,rfl⟩
   have hQ:Lk.drop (a+z+z)=[]:=List.drop_of_length_le (by omega)
   have hc4:Lk=P++X++Y++[]:=by rw[hP,hX,hY,←hQ,St.CC]
   have hc5:Lk=P++(X++Y)++[]:=by rw[hc4];simp
   have lP:P.length=a:=by rw[hP,List.length_take];omega
   have lX:X.length=z:=by rw[hX,List.length_take,List.length_drop];omega
   have lY:Y.length=n-m:=by rw[hY,List.length_take,List.length_drop];omega
   have lXY:(X++Y).length≤y:=by rw[List.length_append];omega
   have sX:St.au (aW c) X:=by have:=hso2 (2* k) (Nat.le_refl _);rw[St.ez,←ha2,←hX]at this;exact this
   have sY:St.au (aW c) Y:=by have:=hso2 (2* k+1) (by omega);rw[St.ez,hk3,←hY]at this;exact this
   obtain⟨L1,hL1⟩:∃L1,L1=P++St.aG (aW c) (X++Y)++[]:=⟨_,rfl⟩
   have lL1:L1.length=n:=by rw[hL1,←hlen,hc5];simp[St.aX];try omega
   have hst1:St.bD (aW c) L1 L:=by
    refine St.bD.trans ?_ hst
    rw[hL1]
    have:=St.dC ho P (X++Y) []
    rwa[←hc5]at this
   have hso1:∀j,j<k+1→St.au (aW c) (St.ez y j L1):=by
    rw[hL1];exact St.eC ho (by omega) (by rw[←hc5];exact hso) (.inr ⟨lXY,rfl⟩)
   clear hP hX hY hQ hst hso hso2
   simp -implicitDefEqProofs only[↓reduceIte,go_sem,Nat.reduceLT,Nat.reduceEqDiff,reduceCtorEq,t1,t6,t7,w2,eq_true hmn]
   simp -implicitDefEqProofs only[go_sem,t0,t2]
   refine ab.ok (dm H id ag hid g caps c ho hc n (by omega) _ P X Y [] Lk L1 a m n (Nat.le_refl _) hc4 hL1 lP (by omega) (by omega) (by omega) (by omega) sX sY hlen) ?_
   simp -implicitDefEqProofs only[↓reduceIte,go_sem,Nat.reduceLT,Nat.reduceEqDiff,t6,w1']
   refine⟨_,_,y,an.refl _ _,⟨by omega,by omega,⟨L1,rfl,hst1,lL1,all L1 lL1 hso1⟩,?_⟩,by omega⟩
   simp -implicitDefEqProofs only[↓reduceIte,go_sem,Nat.reduceLT,Nat.reduceEqDiff,reduceCtorEq,t0,t1,t2]
  ·have hso1:∀j,j<k+1→St.au (aW c) (St.ez y j Lk):=fun j hj=>by
    rcases Nat.lt_or_ge j k with h|h
    ·exact hso j h
    ·obtain rfl:j=k:=by omega
     have h1:=hso2 (2* j) (Nat.le_refl _)
     unfold St.ez at h1⊢
     rw[←ha2,List.take_of_length_le (by rw[List.length_drop];omega)]at h1
     rw[←ha,List.take_of_length_le (by rw[List.length_drop];omega)]
     exact h1
   simp -implicitDefEqProofs only[↓reduceIte,go_sem,Nat.reduceLT,Nat.reduceEqDiff,t1,t6,t7,w2,eq_false hmn,w1']
   refine⟨_,_,y,an.refl _ _,⟨by omega,by omega,⟨Lk,rfl,hst,hlen,all Lk hlen hso1⟩,?_⟩,by omega⟩
   simp -implicitDefEqProofs only[↓reduceIte,go_sem,Nat.reduceLT,Nat.reduceEqDiff,reduceCtorEq,t0,t1,t2]
 ·simp -implicitDefEqProofs only[↓reduceIte,go_sem,Nat.reduceLT,Nat.reduceEqDiff,t1,t6,eq_false hzn]
  have h0:=hbl 0
  unfold St.ez at h0
  rw[Nat.zero_mul,List.drop_zero,List.take_of_length_le (by omega)]at h0
  rw[←hE1,St.iL ho h0 hst]
  exact⟨_,an.refl _ _,rfl⟩
theorem lj(H:aa)(id ag:Nat)(hid:id<H.length)(g:FuncId)(caps:List AV)(c:(List ak)→(List ak)→Int)(ho:St.Ord (aW c))(hc:dJ g caps c H id)(n:Nat)(hbig:n≤100000000000)(L:List (List ak))(hn:L.length=n):
  ah Tryz.prog 119 [.sl id ag 0 n,.fn g caps] (aH H id ag L) (.ok (.bq [])) (aH H id ag (St.aG (aW c) L)):=by
 have gh:=cf hid ag L
 have hs:=iP H id ag hid g caps c ho hc n hbig L hn
 generalize aH H id ag L=E0 at*
 refine ah.aj (hint:=(fun _=>false)) Tryz.func119 (by kernel_rfl) rfl [] (by kernel_rfl) (by decide) (by simp[Tryz.ntmps119]) ?_
 rw[Tryz.ntmps119]
 simp -implicitDefEqProofs only[↓reduceIte,go_sem,Nat.reduceLT,Nat.reduceEqDiff,reduceCtorEq,gh]
 refine ab.ok hs ?_
 simp -implicitDefEqProofs only[go_sem]
 exact⟨_,an.refl _ _,rfl⟩
end SR
end Go.Proofs.YtggohfhfocgilaaGreat
namespace Go.Proofs.YtggohfhfocgilaaGreat
open Go.Proofs.YtggohfhfocgilaaGreatAw Go.RowKit
namespace SR
theorem Db(l:List (List ak)):(∀c∈l.map cS,c.length=1)=True:=eq_true fun c hc=>by obtain⟨a,_,rfl⟩:=List.mem_map.1 hc;rfl
theorem uV(K:Value→Prop):ck Tryz.prog .eql 22 (.slice none 0 0) (.slice none 0 0) K=K (.bool true):=pX (e:=136) (by kernel_rfl) K
theorem dk(H:aa):ah Tryz.prog 118 [.d (.v (.slice none 0 0))] H (.ok (.d (.v (.slice none 0 0)))) H:=by
 refine ah.aj (hint:=(fun _=>false)) Tryz.func118 (by kernel_rfl) rfl [2] (by kernel_rfl) (by decide) (by simp[Tryz.ntmps118]) ?_
 rw[Tryz.ntmps118]
 simp -implicitDefEqProofs only[↓reduceIte,go_sem,Nat.reduceLT,reduceCtorEq,uV]
 refine ao.aF ?_
 simp -implicitDefEqProofs only[↓reduceIte,go_sem,Nat.reduceLT]
theorem c7(l:List (List ak))(nn:Bool)(H:aa)(h0:nn=true∨l≠[])(hl:l.length≤1000000000000):ah Tryz.prog 118 [.d (.list nn (l.map cS))] H (.ok (.sl H.length 1 0 l.length)) (H++[.arr 136 1 1 (l.map cS)]):=by
 have e1:(nn|| !(l.map cS).isEmpty)=true:=by
  rcases h0 with h|h
  ·simp[h]
  ·cases l with
   |nil=>exact absurd rfl h
   |cons a l=>simp
 refine ah.aj (hint:=(fun _=>false)) Tryz.func118 (by kernel_rfl) rfl [2] (by kernel_rfl) (by decide) (by simp[Tryz.ntmps118]) ?_
 rw[Tryz.ntmps118]
 simp -implicitDefEqProofs only[↓reduceIte,go_sem,Nat.reduceLT,Nat.reduceEqDiff,reduceCtorEq,e1,Db]
 refine⟨by omega,by omega,_,an.refl _ _,?_⟩
 simp -implicitDefEqProofs only[↓reduceIte,go_sem,Nat.reduceLT]
theorem ec(l:List (List ak))(nn:Bool)(H:aa)(hl:l.length≤1000000000000):ah Tryz.prog 118 [.d (.list nn (l.map cS))] H (.ok (.sl H.length 1 0 l.length)) (H++[.arr 136 1 1 (l.map cS)]):=by
 cases nn with
 |true=>exact c7 l true H (.inl rfl) hl
 |false=>
  cases l with
  |cons a l=>exact c7 _ false H (.inr (by simp)) hl
  |nil=>
   refine ah.nN [] [] ?_ (c7 [] true H (.inl rfl) (by simp))
   have:=(dk H).Cr (an.xa (rn _) H 0 136 1 1 (by decide) rfl)
   simpa[rn]using this
end SR
end Go.Proofs.YtggohfhfocgilaaGreat
namespace Go.Proofs.YtggohfhfocgilaaGreat
open Go.Proofs.YtggohfhfocgilaaGreatAw Go.RowKit
namespace SV
theorem Db(l:List ak):(∀c∈l.map ak.enc,c.length=3)=True:=eq_true fun c hc=>by obtain⟨a,_,rfl⟩:=List.mem_map.1 hc;rfl
theorem uV(K:Value→Prop):ck Tryz.prog .eql 136 (.slice none 0 0) (.slice none 0 0) K=K (.bool true):=pX (e:=100) (by kernel_rfl) K
theorem dk(H:aa):ah Tryz.prog 121 [.d (.v (.slice none 0 0))] H (.ok (.d (.v (.slice none 0 0)))) H:=by
 refine ah.aj (hint:=(fun _=>false)) Tryz.func121 (by kernel_rfl) rfl [2] (by kernel_rfl) (by decide) (by simp[Tryz.ntmps121]) ?_
 rw[Tryz.ntmps121]
 simp -implicitDefEqProofs only[↓reduceIte,go_sem,Nat.reduceLT,reduceCtorEq,uV]
 refine ao.aF ?_
 simp -implicitDefEqProofs only[↓reduceIte,go_sem,Nat.reduceLT]
theorem c7(l:List ak)(nn:Bool)(H:aa)(h0:nn=true∨l≠[])(hl:l.length≤1000000000000):ah Tryz.prog 121 [.d (.list nn (l.map ak.enc))] H (.ok (.sl H.length 1 0 l.length)) (H++[.arr 100 3 1 (l.map ak.enc)]):=by
 have e1:(nn|| !(l.map ak.enc).isEmpty)=true:=by
  rcases h0 with h|h
  ·simp[h]
  ·cases l with
   |nil=>exact absurd rfl h
   |cons a l=>simp
 refine ah.aj (hint:=(fun _=>false)) Tryz.func121 (by kernel_rfl) rfl [2] (by kernel_rfl) (by decide) (by simp[Tryz.ntmps121]) ?_
 rw[Tryz.ntmps121]
 simp -implicitDefEqProofs only[↓reduceIte,go_sem,Nat.reduceAdd,Nat.reduceLT,Nat.reduceEqDiff,reduceCtorEq,e1,Db]
 refine⟨by omega,by omega,_,an.refl _ _,?_⟩
 simp -implicitDefEqProofs only[↓reduceIte,go_sem,Nat.reduceLT]
theorem ec(l:List ak)(nn:Bool)(H:aa)(hl:l.length≤1000000000000):ah Tryz.prog 121 [.d (.list nn (l.map ak.enc))] H (.ok (.sl H.length 1 0 l.length)) (H++[.arr 100 3 1 (l.map ak.enc)]):=by
 cases nn with
 |true=>exact c7 l true H (.inl rfl) hl
 |false=>
  cases l with
  |cons a l=>exact c7 _ false H (.inr (by simp)) hl
  |nil=>
   refine ah.nN [] [] ?_ (c7 [] true H (.inl rfl) (by simp))
   have:=(dk H).Cr (an.xa (rn _) H 0 100 3 1 (by decide) rfl)
   simpa[rn]using this
end SV
end Go.Proofs.YtggohfhfocgilaaGreat
namespace Go.Proofs.YtggohfhfocgilaaGreat
open Go.Proofs.YtggohfhfocgilaaGreatAw Go.RowKit
structure kz {α:Type} (c:α→α→Int):Prop where
 fg:∀x y,c x y<0↔0<c y x
 ntrans:∀x y z,c x z<0→c x y<0∨c y z<0
def rP{α:Type}(c:α→α→Int)(x y:α):Bool:=decide (c x y<0)
theorem kz.ord{α:Type}{c:α→α→Int}(h:kz c):St.Ord (rP c)where
 asym x y hx:=by
  simp only[rP,decide_eq_true_eq,decide_eq_false_iff_not]at hx⊢
  have:=(h.fg x y).1 hx
  omega
 ntrans x y z hx:=by
  simp only[rP,decide_eq_true_eq]at hx⊢
  exact h.ntrans x y z hx
theorem kz.zero{α:Type}{c:α→α→Int}(h:kz c)(x y:α):c x y=0↔c y x=0:=by
 have h1:=h.fg x y
 have h2:=h.fg y x
 omega
theorem kz.self{α:Type}{c:α→α→Int}(h:kz c)(x:α):c x x=0:=by
 have h1:=h.fg x x
 omega
theorem kz.le_trans{α:Type}{c:α→α→Int}(h:kz c){x y z:α}(h1:c x y≤0)(h2:c y z≤0):c x z≤0:=by
 have a1:=h.fg y x
 have a2:=h.fg z y
 have a3:=h.fg z x
 have:=h.ntrans z y x
 omega
theorem kz.fh{α:Type}{c:α→α→Int}(h:kz c){x y z:α}(h1:c x y=0)(h2:c y z=0):c x z=0:=by
 have a1:=h.le_trans (x:=x) (y:=y) (z:=z) (by omega) (by omega)
 have a2:=h.le_trans (x:=z) (y:=y) (z:=x) (by have:=(h.zero y z).1 h2;omega) (by have:=(h.zero x y).1 h1;omega)
 have a3:=h.fg x z
 have a4:=h.fg z x
 omega
theorem kz.lex{α:Type}{c d e:α→α→Int}(h:kz c)(h1:∀x y,c x y≠0→e x y=c x y)(h2:∀x y,c x y=0→e x y=d x y)(da:∀x y,c x y=0→(d x y<0↔0<d y x))(dn:∀x y z,c x y=0→c y z=0→d x z<0→d x y<0∨d y z<0):kz e where
 fg x y:=by
  by_cases hc:c x y=0
  ·rw[h2 x y hc,h2 y x ((h.zero x y).1 hc)]
   exact da x y hc
  ·rw[h1 x y hc,h1 y x fun h0=>hc ((h.zero x y).2 h0)]
   exact h.fg x y
 ntrans x y z hx:=by
  by_cases hxy:c x y=0
  ·by_cases hyz:c y z=0
   ·have hxz:=h.fh hxy hyz
    rw[h2 x z hxz]at hx
    rw[h2 x y hxy,h2 y z hyz]
    exact dn x y z hxy hyz hx
   ·have hxz:c x z≠0:=fun h0=>hyz (h.fh ((h.zero x y).1 hxy) h0)
    rw[h1 x z hxz]at hx
    rw[h1 y z hyz]
    rcases h.ntrans x y z hx with h3|h3
    ·omega
    ·exact .inr h3
  ·by_cases hyz:c y z=0
   ·have hxz:c x z≠0:=fun h0=>hxy (h.fh h0 ((h.zero y z).1 hyz))
    rw[h1 x z hxz]at hx
    rw[h1 x y hxy]
    rcases h.ntrans x y z hx with h3|h3
    ·exact .inl h3
    ·omega
   ·rw[h1 x y hxy,h1 y z hyz]
    by_cases hxz:c x z=0
    ·have a1:=h.fg x y
     have a2:=h.fg y x
     have a3:=h.fg y z
     have a4:=h.fg z y
     have n1:=h.ntrans y x z
     have n2:=h.ntrans y z x
     have n3:=h.ntrans z x y
     have z1:=(h.zero x z).1 hxz
     omega
    ·rw[h1 x z hxz]at hx
     exact h.ntrans x y z hx
theorem Be{α:Type}{lt:α→α→Bool}{c:α→α→Int}(ho:St.Ord lt)(h1:∀x y,lt x y=true→c x y<0)(h2:∀x y,lt x y=false→lt y x=true→0<c x y)(h3:∀x y,lt x y=false→lt y x=false→c x y=0):kz c where
 fg x y:=by
  cases hx:lt x y with
  |true=>have:=h1 x y hx;have:=h2 y x (ho.asym x y hx) hx;omega
  |false=>
   cases hy:lt y x with
   |true=>have:=h1 y x hy;have:=h2 x y hx hy;omega
   |false=>have:=h3 x y hx hy;have:=h3 y x hy hx;omega
 ntrans x y z hx:=by
  have hl:lt x z=true:=by
   cases e:lt x z with
   |true=>rfl
   |false=>
    cases e2:lt z x with
    |true=>have:=h2 x z e e2;omega
    |false=>have:=h3 x z e e2;omega
  rcases ho.ntrans x y z hl with h|h
  ·exact .inl (h1 x y h)
  ·exact .inr (h1 y z h)
theorem ot:kz eD where
 fg x y:=by
  unfold eD c9
  by_cases h1:x<y<;>by_cases h2:y<x<;>simp[h1,h2]<;>omega
 ntrans x y z:=by
  unfold eD c9
  by_cases h1:x<y<;>by_cases h2:y<x<;>by_cases h3:y<z<;>by_cases h4:z<y<;>by_cases h5:x<z<;>by_cases h6:z<x<;>simp[h1,h2,h3,h4,h5,h6]<;>omega
theorem jB{a b:Int}:eD a b=0↔a=b:=by
 unfold eD c9
 by_cases h1:a<b<;>by_cases h2:b<a<;>simp[h1,h2]<;>omega
theorem CK(a b:Nat):uN a b=eD (fX a) (fX b):=by
 unfold uN eD c9
 simp[Int.ofNat_lt]
theorem jM:∀l:List UInt8,Op.bytesLess l l=false
 |[]=>rfl
 |a::l=>by simp[Op.bytesLess,jM l]
theorem iH:∀l m:List UInt8,Op.bytesLess l m=true→Op.bytesLess m l=false
 |_,[],h=>by simp[Op.bytesLess]at h
 |[],_::_,_=>rfl
 |a::l,b::m,h=>by
  simp only[Op.bytesLess,Bool.or_eq_true,decide_eq_true_eq,Bool.and_eq_true,beq_iff_eq]at h
  simp only[Op.bytesLess,Bool.or_eq_false_iff,decide_eq_false_iff_not,Bool.and_eq_false_iff,beq_eq_false_iff_ne]
  rcases h with h|⟨rfl,h⟩
  ·exact⟨fun h2=>UInt8.lt_asymm h h2,.inl fun e=>by subst e;exact UInt8.lt_irrefl _ h⟩
  ·exact⟨UInt8.lt_irrefl _,.inr (iH l m h)⟩
theorem ga:∀l m:List UInt8,Op.bytesLess l m=false→Op.bytesLess m l=false→l=m
 |[],[],_,_=>rfl
 |[],_::_,h,_=>by simp[Op.bytesLess]at h
 |_::_,[],_,h=>by simp[Op.bytesLess]at h
 |a::l,b::m,h1,h2=>by
  simp only[Op.bytesLess,Bool.or_eq_false_iff,decide_eq_false_iff_not,Bool.and_eq_false_iff,beq_eq_false_iff_ne]at h1 h2
  have e:a=b:=UInt8.le_antisymm (UInt8.not_lt.1 h2.1) (UInt8.not_lt.1 h1.1)
  subst e
  rcases h1.2 with h|h
  ·exact absurd rfl h
  ·rcases h2.2 with g|g
   ·exact absurd rfl g
   ·rw[ga l m h g]
theorem ig:∀l m n:List UInt8,Op.bytesLess l m=true→Op.bytesLess m n=true→Op.bytesLess l n=true
 |_,_,[],_,h=>by simp[Op.bytesLess]at h
 |[],_,_::_,_,_=>rfl
 |_::_,[],_::_,h,_=>by simp[Op.bytesLess]at h
 |a::l,b::m,c::n,h1,h2=>by
  simp only[Op.bytesLess,Bool.or_eq_true,decide_eq_true_eq,Bool.and_eq_true,beq_iff_eq]at h1 h2⊢
  rcases h1 with h1|⟨rfl,h1⟩
  ·rcases h2 with h2|⟨rfl,h2⟩
   ·exact .inl (UInt8.lt_trans h1 h2)
   ·exact .inl h1
  ·rcases h2 with h2|⟨rfl,h2⟩
   ·exact .inl h2
   ·exact .inr ⟨rfl,ig l m n h1 h2⟩
theorem yD:St.Ord mg where
 asym x y h:=iH _ _ h
 ntrans x y z h:=by
  unfold mg at*
  cases h1:Op.bytesLess x.toList y.toList with
  |true=>exact .inl rfl
  |false=>
   right
   cases h2:Op.bytesLess y.toList x.toList with
   |true=>exact ig _ _ _ h2 h
   |false=>rw[←ga _ _ h1 h2];exact h
theorem AY:kz lJ:=by
 refine Be yD (fun x y h=>?_) (fun x y h g=>?_) fun x y h g=>?_
 ·unfold lJ c9;simp[h]
 ·unfold lJ c9
  have:(x.toList==y.toList)=false:=by
   rw[beq_eq_false_iff_ne]
   intro e
   unfold mg at g
   rw[e,jM]at g;cases g
  simp[h,this]
 ·unfold lJ c9
  have e:=ga _ _ h g
  simp[h,e]
def yB(v:ak):Int:=fX (uD v.i)
theorem kz.sI{α β:Type}{c:α→α→Int}(h:kz c)(f:β→α):kz (fun x y=>c (f x) (f y)):=⟨fun x y=>h.fg _ _,fun x y z=>h.ntrans _ _ _⟩
def mH(k:Int)(a b:ak):Int:=if k=1 then eD a.i b.i else if k=2 then eD (yB a) (yB b)else if k=3 then lJ a.s b.s else 0
theorem xm(a b:ak):aN a b=if eD a.kind b.kind≠0 then eD a.kind b.kind else mH a.kind a b:=by
 unfold aN mH
 simp only[CK,←show ∀v:ak,yB v=fX (uD v.i)from fun _=>rfl]
 by_cases h:a.kind=b.kind
 ·simp[h,jB]
 ·simp[h,jB]
theorem tm{α:Type}:kz (fun _ _:α=>(0:Int)):=⟨fun _ _=>by simp,fun _ _ _ h=>by simp at h⟩
theorem tK(k:Int):kz (mH k):=by
 by_cases k1:k=1
 ·have:mH k=fun a b=>eD a.i b.i:=by funext a b;unfold mH;rw[if_pos k1]
  rw[this];exact ot.sI ak.i
 ·by_cases k2:k=2
  ·have:mH k=fun a b=>eD (yB a) (yB b):=by funext a b;unfold mH;rw[if_neg k1,if_pos k2]
   rw[this];exact ot.sI yB
  ·by_cases k3:k=3
   ·have:mH k=fun a b=>lJ a.s b.s:=by funext a b;unfold mH;rw[if_neg k1,if_neg k2,if_pos k3]
    rw[this];exact AY.sI ak.s
   ·have:mH k=fun a b=>0:=by funext a b;unfold mH;rw[if_neg k1,if_neg k2,if_neg k3]
    rw[this];exact tm
theorem dP:kz aN:=by
 refine kz.lex (c:=fun a b=>eD a.kind b.kind) (d:=fun a b=>mH a.kind a b) (ot.sI ak.kind) (fun x y h=>by rw[xm,if_pos h]) (fun x y h=>by rw[xm,if_neg (by simpa using h)]) (fun x y h=>?_) fun x y z h1 h2=>?_
 ·have h:=jB.1 h
  rw[h]
  exact(tK _).fg x y
 ·have h1:=jB.1 h1
  rw[h1]
  exact(tK _).ntrans x y z
def jH:List Int→List ak→List ak→Int
 |[],_,_=>0
 |c::cs,a,b=>if aN (gn a c) (gn b c)≠0 then aN (gn a c) (gn b c)else jH cs a b
theorem js:∀cs:List Int,kz (jH cs)
 |[]=>by
  have:jH []=fun _ _=>0:=rfl
  rw[this];exact tm
 |c::cs=>by
  have ih:=js cs
  refine kz.lex (c:=fun a b=>aN (gn a c) (gn b c)) (d:=jH cs) (dP.sI fun a=>gn a c) (fun x y h=>by simp only[jH];rw[if_pos h]) (fun x y h=>by simp only[jH];rw[if_neg (by simpa using h)]) (fun x y _=>ih.fg x y) fun x y z _ _=>ih.ntrans x y z
theorem uu(a b:List ak):∀{cs:List Int} {k:Nat} (hk:k<cs.length) (h:∀i (hi:i<k) (hl:i<cs.length),aN (gn a cs[i]) (gn b cs[i])=0) (hx:aN (gn a cs[k]) (gn b cs[k])≠0),jH cs a b=aN (gn a cs[k]) (gn b cs[k])
 |[],k,hk,_,_=>by simp at hk
 |c::cs,0,hk,_,hx=>by simp only[List.getElem_cons_zero]at hx⊢;simp only[jH];rw[if_pos hx]
 |c::cs,k+1,hk,h,hx=>by
  have h0:=h 0 (by omega) (by simp)
  simp only[List.getElem_cons_zero]at h0
  simp only[List.getElem_cons_succ]at hx⊢
  simp only[jH,h0,ne_eq,not_true_eq_false,if_false]
  exact uu a b (by simpa using hk) (fun i hi hl=>by have:=h (i+1) (by omega) (by simpa using hl);simpa using this) hx
theorem pE(a b:List ak):∀{cs:List Int} (h:∀i (hl:i<cs.length),aN (gn a cs[i]) (gn b cs[i])=0),jH cs a b=0
 |[],_=>rfl
 |c::cs,h=>by
  have h0:=h 0 (by simp)
  simp only[List.getElem_cons_zero]at h0
  simp only[jH,h0,ne_eq,not_true_eq_false,if_false]
  exact pE a b fun i hl=>by have:=h (i+1) (by simpa using hl);simpa using this
abbrev yc(n:Bool)(l:List Int):aA:= .box 23 1 0 1 [.d (.list n (ints l))]
theorem we(n:Bool)(l:List Int)(H:aa):ah Tryz.prog 120 [.d (.list n (ints l))] H (.ok (.fn 153 [.ptr H.length 0 0 0])) (H++[yc n l]):=by
 refine ah.aj (hint:=(fun _=>false)) Tryz.func120 (by kernel_rfl) rfl [2] (by kernel_rfl) (by decide) (by simp[Tryz.ntmps120]) ?_
 rw[Tryz.ntmps120]
 simp -implicitDefEqProofs only[↓reduceIte,go_sem,Nat.reduceLT,Nat.reduceEqDiff]
 exact⟨_,an.refl _ _,by simp -implicitDefEqProofs only[↓reduceIte,go_sem,Nat.reduceLT]⟩
theorem sF(a b:List ak)(n:Bool)(cs:List Int)(hl:cs.length≤1000000000000)(id:Nat)(H:aa)(hx:H[id]?=some (yc n cs)):
  ah Tryz.prog 153 [.d (.list false (a.map ak.enc)),.d (.list false (b.map ak.enc)),.ptr id 0 0 0] H (.ok (iA (jH cs a b))) H:=by
 refine ah.aj (hint:=(fun _=>false)) Tryz.func153 (by kernel_rfl) rfl [5] (by kernel_rfl) (by decide) (by simp[Tryz.ntmps153]) ?_
 rw[Tryz.ntmps153]
 simp -implicitDefEqProofs only[↓reduceIte,go_sem,ae,Nat.reduceLT,Nat.reduceEqDiff,hx]
 refine bf (fun k s H'=>H'=H∧(∀i (hi:i<k) (hl:i<cs.length),aN (gn a cs[i]) (gn b cs[i])=0)∧s 0= .d (.list false (a.map ak.enc))∧s 1= .d (.list false (b.map ak.enc))∧s 9= .d (.list n (ints cs))∧s 10=iA cs.length∧s 11=iA k) cs.length (by omega) (an.refl _ _) ?_ ?_ ?_
 ·refine⟨rfl,fun i hi=>by omega,?_⟩
  simp -implicitDefEqProofs only[↓reduceIte,go_sem,Nat.reduceLT,Nat.reduceEqDiff,reduceCtorEq,az]
 ·rintro k s H' hk hw ⟨rfl,hp,t0,t1,t9,t10,t11⟩
  have hy:=b5 cs k hk
  have hit:aN (gn a cs[k]) (gn b cs[k])≠0→jH cs a b=aN (gn a cs[k]) (gn b cs[k]):=fun h=>uu a b hk hp h
  have hpp:aN (gn a cs[k]) (gn b cs[k])=0→∀i (hi:i<k+1) (hl:i<cs.length),aN (gn a cs[i]) (gn b cs[i])=0:=fun h0 i hi hl'=>by
   rcases Nat.lt_or_ge i k with h|h
   ·exact hp i h hl'
   ·obtain rfl:i=k:=by omega
    exact h0
  generalize cs[k]=c at*
  simp -implicitDefEqProofs only[↓reduceIte,go_sem,Nat.reduceLT,Nat.reduceEqDiff,reduceCtorEq,t0,t9,t10,t11,hk,hy]
  refine ab.ok (xb a c false _) ?_
  simp -implicitDefEqProofs only[↓reduceIte,go_sem,Nat.reduceLT,Nat.reduceEqDiff,t1]
  refine ab.ok (xb b c false _) ?_
  simp -implicitDefEqProofs only[↓reduceIte,go_sem,Nat.reduceLT,Nat.reduceEqDiff]
  refine ab.ok (cl _ _ _) ?_
  generalize aN (gn a c) (gn b c)=e at*
  by_cases he:e=0
  ·simp -implicitDefEqProofs only[↓reduceIte,go_sem,Nat.reduceLT,Nat.reduceEqDiff,t11,he]
   refine cO.same ⟨rfl,hpp he,?_⟩
   simp -implicitDefEqProofs only[↓reduceIte,go_sem,Nat.reduceLT,Nat.reduceEqDiff,reduceCtorEq,t0,t1,t9,t10,hw]
  ·simp -implicitDefEqProofs only[↓reduceIte,go_sem,Nat.reduceLT,Nat.reduceEqDiff,he]
   refine ao.aF ?_
   simp -implicitDefEqProofs only[↓reduceIte,go_sem,Nat.reduceLT,hit he]
 ·rintro s H' ⟨rfl,hp,t0,t1,t9,t10,t11⟩
  simp -implicitDefEqProofs only[↓reduceIte,go_sem,Nat.reduceLT,t10,t11]
  refine ao.aF ?_
  simp -implicitDefEqProofs only[↓reduceIte,go_sem,Nat.reduceLT,pE a b fun i hi=>hp i hi hi]
theorem sc(l:List ak)(nn:Bool)(H:aa)(hl:l.length≤1000000000000):ah Tryz.prog 121 [.d (.list nn (l.map ak.enc))] H (.ok (.d (.list false (l.map ak.enc)))) H:=by
 have h:=(SV.ec l nn H hl).drop
 rwa[xk _ _ _ _ _ _ (by simp)]at h
def oy(R:List (List ak))(cs:List Int):List (List ak):=St.aG (SR.aW (jH cs)) R
theorem CL(R:List (List ak))(cs:List Int)(n1 n2:Bool)(H:aa)(hR:R.length≤1000000000)(hr:∀r∈R,r.length≤1000000000)(hk:cs.length≤1000000000000):
  ah Tryz.prog 74 [.d (.list n1 (b9 R)),.d (.list n2 (ints cs))] H (.ok (.d (.list false (b9 (oy R cs))))) H:=by
 refine ah.aj (hint:=(fun _=>false)) Tryz.func74 (by kernel_rfl) rfl [4] (by kernel_rfl) (by decide) (by simp[Tryz.ntmps74]) ?_
 rw[Tryz.ntmps74]
 have hlen:(oy R cs).length=R.length:=St.aX _
 have hmem:∀r∈oy R cs,r.length≤1000000000:=fun r h=>hr r ((St.eZ (js cs).ord).1 h)
 simp -implicitDefEqProofs only[↓reduceIte,go_sem,Nat.reduceLT,reduceCtorEq]
 refine ab.ok (SR.ec R n1 _ (by omega)) ?_
 simp -implicitDefEqProofs only[↓reduceIte,go_sem,Nat.reduceLT,Nat.reduceEqDiff]
 refine ab.ok (we n2 cs _) ?_
 simp -implicitDefEqProofs only[↓reduceIte,go_sem,Nat.reduceLT,Nat.reduceEqDiff]
 have hs:=SR.lj (H++[.arr 136 1 1 (R.map cS),yc n2 cs]) H.length 1 (by simp) 153 [.ptr (H.length+1) 0 0 0] (jH cs) (js cs).ord (fun o x y=>sF x y n2 cs hk (H.length+1) _ (by simp -implicitDefEqProofs only[go_sem])) R.length (by omega) R rfl
 have e1:∀L:List (List ak),SR.aH (H++[.arr 136 1 1 (R.map cS),yc n2 cs]) H.length 1 L=H++[.arr 136 1 1 (L.map cS),yc n2 cs]:=fun L=>by simp -implicitDefEqProofs only[go_sem,SR.aH]
 rw[e1,e1]at hs
 refine ab.ok hs ?_
 have e2:St.aG (SR.aW (jH cs)) R=oy R cs:=rfl
 rw[e2,←hlen]
 generalize oy R cs=Q at*
 simp -implicitDefEqProofs only[↓reduceIte,go_sem,Nat.reduceLT,Nat.reduceEqDiff]
 refine bf (fun k s H'=>H'=H++[.arr 136 1 1 (Q.map cS),yc n2 cs]∧s 5= .sl H.length 1 0 Q.length∧s 14= .sl H.length 1 0 Q.length∧s 15=iA Q.length∧s 16=iA k) Q.length (by omega) (an.refl _ _) ?_ ?_ ?_
 ·refine⟨rfl,?_⟩
  simp -implicitDefEqProofs only[↓reduceIte,go_sem,Nat.reduceLT,Nat.reduceEqDiff]
 ·rintro k s H' hk' hw ⟨rfl,t5,t14,t15,t16⟩
  have hx:=jy Q k hk'
  have hrl:=hmem Q[k] (List.getElem_mem hk')
  have hset:(Q.map cS).set k [.list false (Q[k].map ak.enc)]=Q.map cS:=by
   apply List.ext_getElem?
   intro i
   by_cases hi:i=k
   ·subst hi;simp[hk',cS]
   ·rw[List.getElem?_set_ne (Ne.symm hi)]
  unfold b9 at hx
  generalize Q[k]=v at*
  simp -implicitDefEqProofs only[↓reduceIte,go_sem,ae,Nat.reduceLT,Nat.reduceEqDiff,t5,t14,t15,t16,hk',hx]
  refine ab.ok (sc v false _ (by omega)) ?_
  simp -implicitDefEqProofs only[↓reduceIte,go_sem,aw,Nat.reduceLT,Nat.reduceEqDiff,t16,hk',hx,hset]
  refine cO.same ⟨rfl,?_⟩
  simp -implicitDefEqProofs only[↓reduceIte,go_sem,Nat.reduceLT,Nat.reduceEqDiff,t5,t14,t15,hw]
 ·rintro s H' ⟨rfl,t5,t14,t15,t16⟩
  simp -implicitDefEqProofs only[↓reduceIte,go_sem,Nat.reduceLT,Nat.reduceEqDiff,t5,t15,t16]
  refine ao.ret ?_
  simp -implicitDefEqProofs only[↓reduceIte,go_sem,Nat.reduceLT,b9,List.take_of_length_le]
abbrev cB(n:Bool)(R:List (List ak)):aA:= .box 22 1 0 1 [.d (.list n (b9 R))]
abbrev nB(n:Int):aA:= .box 3 1 0 1 [iA n]
def xg(n:Nat):Nat:=(n+255)/256
def xh(R:List (List ak))(k:Nat):List (List ak):=(R.drop (256* k)).take 256
def oQ(R:List (List ak)):List (List (List ak)):=(List.range (xg R.length)).map (xh R)
def C4(R:List (List ak)):List (List AV):=(oQ R).map fun p=>[.d (.list false (b9 p))]
theorem kI(R:List (List ak)):(C4 R).length=xg R.length:=by simp[C4,oQ]
theorem xn(R:List (List ak))(k:Nat)(h:k<(C4 R).length):(C4 R)[k]=[.d (.list false (b9 (xh R k)))]:=by simp[C4,oQ]
theorem zZ{n k:Nat}:k<xg n↔256* k<n:=by unfold xg;omega
theorem AT(R:List (List ak)):(∀c∈b9 R,c.length=1)=True:=eq_true fun c hc=>by obtain⟨x,_,rfl⟩:=List.mem_map.1 hc;rfl
theorem vh(n:Bool)(R:List (List ak))(H:aa):ah Tryz.prog 75 [.d (.list n (b9 R)),iA 256] H (.ok (.fn 122 [.ptr H.length 0 0 0,.ptr (H.length+1) 0 0 0])) (H++[cB n R,nB 256]):=by
 refine ah.aj (hint:=(fun _=>false)) Tryz.func75 (by kernel_rfl) rfl [4] (by kernel_rfl) (by decide) (by simp[Tryz.ntmps75]) ?_
 rw[Tryz.ntmps75]
 simp -implicitDefEqProofs only[↓reduceIte,go_sem,ae,Nat.reduceLT,Nat.reduceEqDiff,Int.reduceLT]
 exact⟨_,an.refl _ _,by simp -implicitDefEqProofs only[↓reduceIte,go_sem,Nat.reduceLT]⟩
theorem AK(n:Bool)(R:List (List ak))(id id2:Nat)(hl:R.length≤1000000000000):oe Tryz.prog 122 [.ptr id 0 0 0,.ptr id2 0 0 0] (fun H=>H[id]?=some (cB n R)∧H[id2]?=some (nB 256)) (C4 R):=by
 intro r s0 J Jx m Hs h0 hsb hJ hY
 refine pt.aj (hint:=fun t=>t==3000000) Tryz.func122 (by kernel_rfl) rfl [] (by kernel_rfl) (by decide) (by simp[Tryz.ntmps122]) ?_
 rw[Tryz.ntmps122]
 obtain⟨⟨hC0,hD0⟩,_,hl0⟩:=hJ 0 Hs h0
 simp -implicitDefEqProofs only[go_sem]
 refine aP (fun k s H'=>∃Hk,J k Hk∧H'=Hk++[.lp r s0]∧s 0= .gl m∧s 1= .ptr id 0 0 0∧s 2= .ptr id2 0 0 0∧s 4=iA ((256* k:Nat):Int)) (xg R.length) (by unfold xg;omega) (an.refl _ _) ?_ ?_ ?_
 ·refine⟨Hs,h0,rfl,?_⟩
  simp -implicitDefEqProofs only[↓reduceIte,go_sem,Nat.reduceLT,Nat.reduceEqDiff,reduceCtorEq]
 ·rintro k s H' hk hw ⟨Hk,hJk,rfl,t0,t1,t2,t4⟩
  obtain⟨⟨hCk,hDk⟩,hbk,hlk⟩:=hJ _ _ hJk
  have hx:(Hk++[aA.lp r s0])[id]?=some (cB n R):=by rw[List.getElem?_append_left (al hCk)];exact hCk
  have hy:(Hk++[aA.lp r s0])[id2]?=some (nB 256):=by rw[List.getElem?_append_left (al hDk)];exact hDk
  have hkl:=zZ.1 hk
  have hi:k<(C4 R).length:=by rw[kI];exact hk
  have hYk:=fun T=>hY _ hi Hk T hJk
  rw[xn]at hYk
  obtain⟨q,hq⟩:∃q,q=256* k:=⟨_,rfl⟩
  rw[←hq]at t4 hkl
  have hpart:b9 (xh R k)=((b9 R).drop q).take 256:=by unfold xh b9;rw[List.map_take,List.map_drop,hq]
  rw[hpart]at hYk
  simp -implicitDefEqProofs only[↓reduceIte,go_sem,ae,Nat.reduceLT,Nat.reduceEqDiff,t1,t4,hx,hkl,b7]
  refine aR K.mixed (by kernel_rfl) ?_
  obtain⟨e,he⟩:∃e,e=q+min 256 (R.length-q):=⟨_,rfl⟩
  have hdl:(List.drop q (List.take R.length (b9 R))).length=R.length-q:=by rw[List.length_drop,List.length_take,b7,Nat.min_self]
  have hmn:min (256:Int) ((R.length-q:Nat):Int)=((min 256 (R.length-q):Nat):Int):=by omega
  have hwe:IntKind.i64.wrap ((q:Int)+((min 256 (R.length-q):Nat):Int))=(e:Int):=by rw[wrap64_in _ (by omega) (by omega)];omega
  have hw2:IntKind.i64.wrap ((q:Int)+256)=((q+256:Nat):Int):=by rw[wrap64_in _ (by omega) (by omega)];omega
  have hsl:List.drop q (List.take e (b9 R))=((b9 R).drop q).take 256:=by
   rw[List.drop_take,show e-q=min 256 (R.length-q) by omega]
   by_cases h:R.length-q≤256
   ·rw[Nat.min_eq_right h,List.take_of_length_le (by rw[List.length_drop,b7];omega),List.take_of_length_le (by rw[List.length_drop,b7];omega)]
   ·rw[Nat.min_eq_left (by omega)]
  obtain⟨q2,hq2⟩:∃q2,q2=q+256:=⟨_,rfl⟩
  rw[←hq2]at hw2
  generalize hP:((b9 R).drop q).take 256=P at*
  simp -implicitDefEqProofs only[↓reduceIte,go_sem,ae,Nat.reduceAdd,Nat.reduceLT,Nat.reduceEqDiff,Nat.reduceBEq,reduceCtorEq,t0,t1,t2,t4,hx,hy,b7,hdl,hmn,hwe,AT]
  refine⟨by omega,by omega,by omega,?_⟩
  rw[hsl]
  refine tq.ok (hYk []) ?_
  intro b H' hb
  cases b with
  |true=>
   rw[if_pos rfl]at hb
   obtain⟨Hk',hJk',rfl⟩:=hb
   obtain⟨⟨hCk',hDk'⟩,hbk',hlk'⟩:=hJ _ _ hJk'
   have hy':(Hk'++[aA.lp r s0])[id2]?=some (nB 256):=by rw[List.getElem?_append_left (al hDk')];exact hDk'
   simp -implicitDefEqProofs only[↓reduceIte,go_sem,ae,Nat.reduceAdd,Nat.reduceLT,Nat.reduceEqDiff,Nat.reduceBEq,t2,t4,hy',hw2]
   refine⟨_,_,an.iter rfl hbk' hlk' hl0 hsb,Hk',hJk',rfl,?_⟩
   have hi1:=al hC0
   have hi2:=al hD0
   simp -implicitDefEqProofs only[↓reduceIte,go_sem,Nat.reduceLT,Nat.reduceEqDiff,reduceCtorEq,t0,t1,t2,show 256* (k+1)=q2 by omega,Nat.lt_add_one,show id<m+1 by omega,show id2<m+1 by omega]
  |false=>
   rw[if_neg (by simp)]at hb
   obtain⟨Hk',c,hjx,hbk',hlk',rfl⟩:=hb
   simp -implicitDefEqProofs only[↓reduceIte,go_sem,Nat.reduceLT]
   exact⟨_,_,an.iter rfl hbk' hlk' hl0 hsb,rfl,.inr ⟨Hk',c,hjx,hlk',rfl⟩⟩
 ·rintro s H' ⟨Hk,hJk,rfl,t0,t1,t2,t4⟩
  obtain⟨⟨hCk,hDk⟩,hbk,hlk⟩:=hJ _ _ hJk
  have hx:(Hk++[aA.lp r s0])[id]?=some (cB n R):=by rw[List.getElem?_append_left (al hCk)];exact hCk
  have hge:¬256* xg R.length<R.length:=by unfold xg;omega
  generalize 256* xg R.length=q at*
  simp -implicitDefEqProofs only[↓reduceIte,go_sem,ae,Nat.reduceLT,Nat.reduceEqDiff,t1,t4,hx,hge,b7]
  exact⟨_,_,an.iter rfl hbk hlk hl0 hsb,rfl,.inl ⟨Hk,by rw[kI];exact hJk,rfl⟩⟩
end Go.Proofs.YtggohfhfocgilaaGreat
namespace Go.Proofs.YtggohfhfocgilaaGreatAw
open Go.RowKit
section
variable (P:Program) (hint:Nat→Bool) (n:Nat) (ops:Array Oper)
def bT(B:aa)(Q:aQ):List (Option Bool)→List Oper→(Nat→AV)→aa→Prop
 |[],l,s,H=>aM P hint n ops Q l s H
 |_::_,[],s,H=>aM P hint n ops Q [] s H
 |some true::bs,o::rest,s,H=>cy P hint n ops (fun _ _ _=>False) o (fun s' H'=>Ext B H'∧bT B Q bs rest s' H') s H
 |some false::bs,o::rest,s,H=>cy P hint n ops (fun _ _ _=>False) o (fun s' H'=>H'=H∧bT B Q bs rest s' H') s H
 |none::bs,o::rest,s,H=>cy P hint n ops (fun _ _ _=>False) o (fun s' H'=>H'=B∧bT B Q bs rest s' H) s B
end
section
variable {P:Program} {hint:Nat→Bool} {n:Nat} {ops:Array Oper} {Q:aQ}
theorem jI{B:aa}(hdt:∀(i:Nat) (o:Oper),ops[i]?=some o→jg hint o.op=true)(s0:Nat→AV):∀(bs:List (Option Bool)) (k:Nat) (rs0:Nat→AV) (hp0:Nat→aa),k+bs.length≤ops.size→bT P hint n ops B Q bs (ops.toList.drop k) (a8 n ops s0 rs0 k) (hp0 k)→
  ∃(rs:Nat→AV) (hp:Nat→aa),(∀i,i<k→rs i=rs0 i)∧(∀i,i≤k→hp i=hp0 i)∧
   (∀i o,k≤i→i<k+bs.length→ops[i]?=some o→(bs[i-k]?=some (some true)→bP P hint n ops (hp i) (a8 n ops s0 rs i) o (rs i) (hp (i+1))∧Ext B (hp (i+1)))∧
    (bs[i-k]?=some (some false)→bP P hint n ops (hp i) (a8 n ops s0 rs i) o (rs i) (hp i)∧hp (i+1)=hp i)∧
    (bs[i-k]?=some none→bP P hint n ops B (a8 n ops s0 rs i) o (rs i) B∧hp (i+1)=hp i))∧
   aM P hint n ops Q (ops.toList.drop (k+bs.length)) (a8 n ops s0 rs (k+bs.length)) (hp (k+bs.length))
 |[],k,rs0,hp0,hk,h=>⟨rs0,hp0,fun _ _=>rfl,fun _ _=>rfl,fun i o h1 h2=>by simp at h2;omega,by
   have h:aM P hint n ops Q (ops.toList.drop k) (a8 n ops s0 rs0 k) (hp0 k):=by
    cases hd:ops.toList.drop k<;>(rw[hd]at h;exact h)
   exact h⟩
 |b::bs,k,rs0,hp0,hk,h=>by
  simp only[List.length_cons]at hk
  have hlt:k<ops.size:=by omega
  have hget:ops[k]?=some ops[k]:=by simp[hlt]
  have hd:ops.toList.drop k=ops[k]::ops.toList.drop (k+1):=by
   rw[List.drop_eq_getElem_cons (by simpa using hlt)];simp
  rw[hd]at h
  have hdst:aY ops k=(ops[k]).dst:=by simp[aY,hget]
  have step:∃r H',((b=some true→bP P hint n ops (hp0 k) (a8 n ops s0 rs0 k) ops[k] r H'∧Ext B H')∧(b=some false→bP P hint n ops (hp0 k) (a8 n ops s0 rs0 k) ops[k] r (hp0 k)∧H'=hp0 k)∧(b=none→bP P hint n ops B (a8 n ops s0 rs0 k) ops[k] r B∧H'=hp0 k))∧bT P hint n ops B Q bs (ops.toList.drop (k+1)) (bl n (a8 n ops s0 rs0 k) (ops[k]).dst r) H':=by
   match b,h with
   |some true,h=>
    obtain⟨r,H',h1,h2,h3⟩:=gO (hdt k _ hget) h
    exact⟨r,H',⟨fun _=>⟨h1,h2⟩,fun e=>(by cases e),fun e=>(by cases e)⟩,h3⟩
   |some false,h=>
    obtain⟨r,H',h1,rfl,h3⟩:=gO (hdt k _ hget) h
    exact⟨r,_,⟨fun e=>(by cases e),fun _=>⟨h1,rfl⟩,fun e=>(by cases e)⟩,h3⟩
   |none,h=>
    obtain⟨r,H',h1,rfl,h3⟩:=gO (hdt k _ hget) h
    exact⟨r,_,⟨fun e=>(by cases e),fun e=>(by cases e),fun _=>⟨h1,rfl⟩⟩,h3⟩
  obtain⟨r,H',⟨h1,h2,h3⟩,h4⟩:=step
  let rs1:Nat→AV:=fun i=>if i=k then r else rs0 i
  let hp1:Nat→aa:=fun i=>if i=k+1 then H' else hp0 i
  have e1:rs1 k=r:=if_pos rfl
  have e2:hp1 (k+1)=H':=if_pos rfl
  have hst:∀(rs:Nat→AV) i,i≤k→(∀j,j<i→rs j=rs0 j)→a8 n ops s0 rs i=a8 n ops s0 rs0 i:=by
   intro rs i
   induction i with
   |zero=>intros;rfl
   |succ i ih=>
    intro hi hr
    simp only[a8,ih (by omega) fun j hj=>hr j (by omega),hr i (by omega)]
  have h5:bT P hint n ops B Q bs (ops.toList.drop (k+1)) (a8 n ops s0 rs1 (k+1)) (hp1 (k+1)):=by
   rw[e2]
   simp only[a8,e1,hdst]
   rw[hst rs1 k (Nat.le_refl _) fun j hj=>if_neg (by omega)]
   exact h4
  obtain⟨rs,hp,g1,g2,g3,g4⟩:=jI hdt s0 bs (k+1) rs1 hp1 (by omega) h5
  have f1:∀i,i<k→rs i=rs0 i:=fun i hi=>by rw[g1 i (by omega)];exact if_neg (by omega)
  have f2:∀i,i≤k→hp i=hp0 i:=fun i hi=>by rw[g2 i (by omega)];exact if_neg (by omega)
  have f3:rs k=r:=by rw[g1 k (by omega)];exact e1
  have f4:hp (k+1)=H':=by rw[g2 (k+1) (by omega)];exact e2
  refine⟨rs,hp,f1,f2,fun i o hi hi2 ho=>?_,by rw[List.length_cons,show k+(bs.length+1)=k+1+bs.length from by omega];exact g4⟩
  rcases Nat.lt_or_ge k i with hki|hki
  ·have:=g3 i o hki (by simp only[List.length_cons]at hi2;omega) ho
   rw[show i-k=(i-(k+1))+1 from by omega,List.getElem?_cons_succ]
   exact this
  ·obtain rfl:i=k:=by omega
   rw[hget]at ho
   cases ho
   rw[Nat.sub_self,List.getElem?_cons_zero,f2 i (Nat.le_refl _),f3,f4,hst rs i (Nat.le_refl _) fun j hj=>f1 j hj]
   refine⟨fun e=>h1 (Option.some.inj e),fun e=>?_,fun e=>h3 (Option.some.inj e)⟩
   obtain⟨g1,g2⟩:=h2 (Option.some.inj e)
   exact⟨g1,g2⟩
end
def pM(hint:Nat→Bool)(ops:Array Oper)(bs:List (Option Bool))(c0:Nat):Bool:=bs[c0]?==some (some true)&&(List.range bs.length).all fun i=>match bs[i]?,ops[i]? with
 |some (some false),some o=>ju hint false o||(decide (i<c0)&&ca ops 12 c0 i)
 |some none,some o=>ju hint true o
 |some (some true),some _=>decide (c0≤i)&&(List.range i).all fun c=>bs[c]?==some (some false)||bs[c]?==some none||ca ops 12 i c
 |_,_=>false
section
variable {P:Program} {hint:Nat→Bool} {n:Nat} {ops:Array Oper} {Q:aQ}
theorem yh(bs:List (Option Bool))(c0:Nat)(B:aa){H0 H:aa}{id:Nat}{s:Nat→AV}(hm:P.follows .mixedOrders=true)(hc:dA hint ops=true)(ht:dB ops bs.length=true)(hx:pM hint ops bs c0=true)(hB:Ext B H)
  (h:bT P hint n ops B Q bs ops.toList s H):cq P hint n H0 (.region id ops true) Q s H:=by
 obtain⟨hms,htl⟩:=eU ht
 refine⟨hm,?_⟩
 obtain⟨rs,hp,_,g2,g3,g4⟩:=jI (cH hc).GH s bs 0 (fun _=> .top) (fun _=>H) (by omega) h
 have g20:hp 0=H:=g2 0 (Nat.le_refl _)
 simp only[Nat.zero_add,Nat.sub_zero,Nat.zero_le,true_implies]at g3 g4
 unfold pM at hx
 rw[Bool.and_eq_true,List.all_eq_true]at hx
 obtain⟨hx0,hx⟩:=hx
 have hx0:bs[c0]?=some (some true):=by simpa using hx0
 have hget:∀i,i<bs.length→∃o,ops[i]?=some o:=fun i hi=>⟨ops[i]'(by omega),by simp[show i<ops.size by omega]⟩
 have hbs:∀i (hi:i<bs.length),bs[i]?=some bs[i]:=fun i hi=>List.getElem?_eq_getElem hi
 let ch:Nat→Bool:=fun i=>bs[i]?==some (some true)
 have chT:∀i,ch i=true→bs[i]?=some (some true):=fun i h=>by
  have h:(bs[i]?==some (some true))=true:=h
  simpa using h
 have chF:∀i,i<bs.length→ch i=false→bs[i]?=some (some false)∨bs[i]?=some none:=fun i hi h=>by
  have h:(bs[i]?==some (some true))=false:=h
  rw[hbs i hi]at h⊢
  rcases hb:bs[i]with _|_|_
  ·exact .inr rfl
  ·exact .inl rfl
  ·rw[hb]at h;simp at h
 have hstay:∀i o,i<bs.length→ops[i]?=some o→ch i=false→hp (i+1)=hp i:=fun i o hi ho hci=>by
  rcases chF i hi hci with h|h
  ·exact((g3 i o hi ho).2.1 h).2
  ·exact((g3 i o hi ho).2.2 h).2
 have hext:∀j,j≤bs.length→Ext B (hp j):=by
  intro j
  induction j with
  |zero=>intro _;rw[g20];exact hB
  |succ j ihj=>
   intro hj
   obtain⟨o,ho⟩:=hget j (by omega)
   cases hcj:ch j with
   |true=>exact((g3 j o (by omega) ho).1 (chT j hcj)).2
   |false=>rw[hstay j o (by omega) ho hcj];exact ihj (by omega)
 have hc0:ch c0=true:=by show(bs[c0]?==some (some true))=true;rw[hx0];rfl
 have hfirst:∀i,i<bs.length→i<c0→ch i=false:=by
  intro i hi hlt
  cases hci:ch i with
  |false=>rfl
  |true=>
   exfalso
   obtain⟨o,ho⟩:=hget i hi
   have:=hx i (List.mem_range.2 hi)
   rw[chT i hci,ho]at this
   simp only[Bool.and_eq_true,decide_eq_true_eq]at this
   omega
 have hbase:∀i,i≤bs.length→i≤c0→hp i=H:=by
  intro i
  induction i with
  |zero=>intros;exact g20
  |succ i ihi=>
   intro hi hcf
   obtain⟨o,ho⟩:=hget i (by omega)
   rw[hstay i o (by omega) ho (hfirst i (by omega) (by omega))]
   exact ihi (by omega) (by omega)
 refine m9 (cH hc) bs.length hms htl s rs hp ch ?_ ?_ ?_ ?_ g4 ops.size (Array.replicate ops.size false) s H (by simp) ?_ ?_ ?_ ?_ ?_ ⟨0,Nat.zero_le _,g20.symm,fun c hcm hct=>?_⟩
 ·intro c c' h1 h2 h3 h4
  have:=hx c' (List.mem_range.2 h2)
  obtain⟨o,ho⟩:=hget c' h2
  rw[chT c' h4,ho]at this
  simp only[Bool.and_eq_true,List.all_eq_true]at this
  have:=this.2 c (List.mem_range.2 h1)
  rw[chT c h3]at this
  simpa using this
 ·intro i hi hci
  obtain⟨o,ho⟩:=hget i hi
  exact hstay i o hi ho hci
 ·intro i o hi ho hci
  exact((g3 i o hi ho).1 (chT i hci)).1
 ·intro i o hi ho hci j hj hnr
  have hfl:=hx i (List.mem_range.2 hi)
  rcases chF i hi hci with hk|hk
  ·rw[hk,ho]at hfl
   simp only[Bool.or_eq_true,Bool.and_eq_true,decide_eq_true_eq]at hfl
   have hs:=((g3 i o hi ho).2.1 hk).1
   rcases hfl with hfl|⟨hlt,hre⟩
   ·exact dK hfl (fun hf=>by cases hf) hs
   ·have hjc:j≤c0:=by
     rcases Nat.lt_or_ge c0 j with h1|h1
     ·have:=hnr c0 h1 hc0
      rw[hre]at this;cases this
     ·exact h1
    rw[hbase j hj hjc]
    rw[hbase i (by omega) (by omega)]at hs
    exact hs
  ·rw[hk,ho]at hfl
   exact dK (first:=true) hfl (fun _=>hext j hj) ((g3 i o hi ho).2.2 hk).1
 ·exact Nat.le_trans List.countP_le_length (by simp)
 ·intro t j hj
  have hjl:=dM hj
  rw[if_neg (by simp[Array.getD,hjl])]
 ·intro t _;rfl
 ·intro j oj i hoj hl
  have hjl:=(Array.getElem?_eq_some_iff.1 hoj).1
  simp[Array.getD,hjl]at hl
 ·intro i hi hi2
  simp[Array.getD,hi2]
 ·have:c<ops.size:=by omega
  simp[Array.getD,this]
end
section
variable (P:Program) (hint:Nat→Bool) (n:Nat) (ops:Array Oper) (Q:aQ) (rest:List Oper) (s:Nat→AV) (H B:aa) (bs:List (Option Bool))
def nY(b:Option Bool)(d:Option Tmp)(H0:aa):AV→aa→Prop:=fun r H'=>(match b with|some true=>Ext B H'∧bT P hint n ops B Q bs rest (bl n s d r) H'|some false=>H'=H0∧bT P hint n ops B Q bs rest (bl n s d r) H'|none=>H'=B∧bT P hint n ops B Q bs rest (bl n s d r) H0)
theorem vo(d:Option Tmp)(H0:aa)(r:AV):nY P hint n ops Q rest s B bs (some true) d H0 r H=(Ext B H∧bT P hint n ops B Q bs rest (bl n s d r) H):=rfl
theorem r7(d:Option Tmp)(H0:aa)(r:AV):nY P hint n ops Q rest s B bs (some false) d H0 r H=(H=H0∧bT P hint n ops B Q bs rest (bl n s d r) H):=rfl
theorem vv(d:Option Tmp)(H0:aa)(r:AV):nY P hint n ops Q rest s B bs none d H0 r H=(H=B∧bT P hint n ops B Q bs rest (bl n s d r) H0):=rfl
theorem rS(l:List Oper):bT P hint n ops B Q [] l s H=aM P hint n ops Q l s H:=by cases l<;>rfl
theorem q8(b:Bool)(d:Option Tmp)(op:Op)(ty:TypeId)(p:String)(af:Array Edge):bT P hint n ops B Q (some b::bs) (⟨d,op,ty,p,af,none⟩::rest) s H=aB P hint s H ⟨d,op,ty,p,af,none⟩ (nY P hint n ops Q rest s B bs (some b) d H) zB:=by
 cases b<;>simp only[bT,cy]<;>rfl
theorem qR(d:Option Tmp)(op:Op)(ty:TypeId)(p:String)(af:Array Edge):bT P hint n ops B Q (none::bs) (⟨d,op,ty,p,af,none⟩::rest) s H=aB P hint s B ⟨d,op,ty,p,af,none⟩ (nY P hint n ops Q rest s B bs none d H) zB:=by
 simp only[bT,cy]<;>rfl
theorem wa(l:List Oper):bT P hint n ops B Q bs l.toArray.toList s H=bT P hint n ops B Q bs l s H:=rfl
end
@[congr] theorem GG {P:Program} {hint:Nat→Bool} {n:Nat} {ops:Array Oper} {Q:aQ} {bs:List (Option Bool)} {l:List Oper} {s:Nat→AV} {B H H':aa} (h:nf H=H'):bT P hint n ops B Q bs l s H=bT P hint n ops B Q bs l s H':=by rw[←h];rfl
@[congr] theorem FV {P:Program} {hint:Nat→Bool} {n:Nat} {ops:Array Oper} {Q:aQ} {rest:List Oper} {s:Nat→AV} {bs:List (Option Bool)} {b:Option Bool} {d:Option Tmp} {B H0 H H':aa} {r r':AV} (g:nf r=r') (h:nf H=H'):nY P hint n ops Q rest s B bs b d H0 r H=nY P hint n ops Q rest s B bs b d H0 r' H':=by rw[←g,←h];rfl
attribute [go_sem] vo r7 vv rS q8 qR wa
end Go.Proofs.YtggohfhfocgilaaGreatAw
namespace Go.Proofs.YtggohfhfocgilaaGreat
open Go.Proofs.YtggohfhfocgilaaGreatAw Go.RowKit
structure Zn where
 rows:Nat
 cj:Nat
 mn:ak
 mx:ak
deriving DecidableEq
def Zn.cs(z:Zn):List AV:=[iA z.rows,iA z.cj,iA z.mn.kind,iA z.mn.i,sA z.mn.s,iA z.mx.kind,iA z.mx.i,sA z.mx.s]
def fE(z:Zn)(v:ak):Zn:=if z.mn.kind=0 then⟨z.rows,z.cj,v,v⟩else z
def fP(z:Zn)(v:ak):Zn:=if aN v z.mn<0 then⟨z.rows,z.cj,v,z.mx⟩else z
def gi(z:Zn)(v:ak):Zn:=if 0<aN v z.mx then⟨z.rows,z.cj,z.mn,v⟩else z
def aV(z:Zn)(v:ak):Zn:=if v.kind=0 then⟨z.rows,z.cj+1,z.mn,z.mx⟩else gi (fP (fE z v) v) v
def n6(l:List ak):Zn:=l.foldl aV ⟨l.length,0,⟨0,0,iv⟩,⟨0,0,iv⟩⟩
theorem nt(z:Zn)(v:ak):(aV z v).cj≤z.cj+1:=by
 have e1:(fE z v).cj=z.cj:=by unfold fE;split<;>rfl
 have e2:∀z,(fP z v).cj=z.cj:=fun z=>by unfold fP;split<;>rfl
 have e3:∀z,(gi z v).cj=z.cj:=fun z=>by unfold gi;split<;>rfl
 unfold aV
 split
 ·exact Nat.le_refl _
 ·rw[e3,e2,e1];omega
theorem xJ(l:List ak)(nn:Bool)(hl:l.length≤1000000000)(H:aa):ah Tryz.prog 127 [.d (.list nn (l.map ak.enc))] H (.ok (.agg (n6 l).cs)) H:=by
 refine ah.cG (hint:=fun _=>false) Tryz.func127 (by kernel_rfl) rfl [.cell 2 102] (by kernel_rfl) (by simp[Tryz.ntmps127]) ?_
 rw[Tryz.ntmps127]
 have hnl:∀k,k≤l.length→((l.take k).foldl aV ⟨l.length,0,⟨0,0,iv⟩,⟨0,0,iv⟩⟩).cj≤k:=by
  intro k
  induction k with
  |zero=>intro _;simp
  |succ k ih=>
   intro hk
   rw[List.take_succ_eq_append_getElem (by omega),List.foldl_append]
   have:=nt ((l.take k).foldl aV ⟨l.length,0,⟨0,0,iv⟩,⟨0,0,iv⟩⟩) l[k]
   have:=ih (by omega)
   simp only[List.foldl_cons,List.foldl_nil]
   omega
 simp -implicitDefEqProofs only[↓reduceIte,go_sem,aw,Nat.reduceAdd,Nat.reduceLT,Nat.reduceLeDiff,Nat.reduceEqDiff,reduceCtorEq,List.length_map]
 refine bf (fun k s H'=>∃z:Zn,z=(l.take k).foldl aV ⟨l.length,0,⟨0,0,iv⟩,⟨0,0,iv⟩⟩∧H'=H++[.box 102 8 0 1 [iA 0,iA 0,iA 0,iA 0,sA ⟨#[]⟩,iA 0,iA 0,sA ⟨#[]⟩],.box 102 8 0 1 z.cs]∧s 2= .ptr H.length 0 0 0∧s 3= .ptr (H.length+1) 0 0 0∧s 9= .d (.list nn (l.map ak.enc))∧s 10=iA l.length∧s 11=iA k) l.length (by omega) (an.refl _ _) ?_ ?_ ?_
 ·refine⟨⟨l.length,0,⟨0,0,iv⟩,⟨0,0,iv⟩⟩,rfl,rfl,?_⟩
  simp -implicitDefEqProofs only[↓reduceIte,go_sem,Nat.reduceLT,Nat.reduceEqDiff]
 ·rintro k s H' hk hw ⟨z,hz,rfl,t2,t3,t9,t10,t11⟩
  have hx:(l.map ak.enc)[k]?=some [.v (.int .i64 l[k].kind),.v (.int .i64 l[k].i),.v (.string l[k].s)]:=by rw[List.getElem?_map,List.getElem?_eq_getElem hk];rfl
  have e1:(l.take (k+1)).foldl aV ⟨l.length,0,⟨0,0,iv⟩,⟨0,0,iv⟩⟩=aV z l[k]:=by rw[List.take_succ_eq_append_getElem hk,List.foldl_append,hz];rfl
  have hn:=hnl k (by omega)
  rw[←hz]at hn
  rw[e1]
  clear hz e1 hnl
  generalize l[k]=v at*
  obtain⟨zr,zn,zmn,zmx⟩:=z
  simp only at hn
  have wn:IntKind.i64.wrap ((zn:Int)+1)=((zn+1:Nat):Int):=by rw[wrap64_in _ (by omega) (by omega)];rfl
  by_cases hk0:v.kind=0
  ·have hst:aV ⟨zr,zn,zmn,zmx⟩ v=⟨zr,zn+1,zmn,zmx⟩:=if_pos hk0
   rw[hst]
   simp -implicitDefEqProofs only[↓reduceIte,go_sem,ae,aw,Nat.reduceAdd,Nat.reduceLT,Nat.reduceLeDiff,Nat.reduceEqDiff,t3,t9,t10,t11,hk,hx,hk0,Zn.cs,wn]
   refine cO.cut [.box 102 8 0 1 [iA 0,iA 0,iA 0,iA 0,sA ⟨#[]⟩,iA 0,iA 0,sA ⟨#[]⟩],.box 102 8 0 1 (Zn.cs ⟨zr,zn+1,zmn,zmx⟩)] _ 2 rfl rfl (by simp -implicitDefEqProofs only[go_sem,Zn.cs]) ⟨⟨zr,zn+1,zmn,zmx⟩,rfl,rfl,?_⟩
   simp -implicitDefEqProofs only[↓reduceIte,go_sem,Nat.reduceLT,Nat.reduceEqDiff,t2,t3,t9,t10,hw]
  ·by_cases hm:zmn.kind=0
   ·have hE:∀cs:List AV,Ext (H++[.box 102 8 0 1 [iA 0,iA 0,iA 0,iA 0,sA ⟨#[]⟩,iA 0,iA 0,sA ⟨#[]⟩],.dead 0,.box 100 3 0 1 [iA v.kind,iA v.i,sA v.s]]) (H++[.box 102 8 0 1 [iA 0,iA 0,iA 0,iA 0,sA ⟨#[]⟩,iA 0,iA 0,sA ⟨#[]⟩],.box 102 8 0 1 cs,.box 100 3 0 1 [iA v.kind,iA v.i,sA v.s]]):=fun cs=>
     Ext.dc H ⟨fun _=>rfl,fun h=>(by cases h),fun _=>rfl,trivial⟩
    have hE':=fun cs=>eq_true (hE cs)
    simp -implicitDefEqProofs only[↓reduceIte,go_sem,ae,aw,Nat.reduceAdd,Nat.reduceLT,Nat.reduceLeDiff,Nat.reduceEqDiff,t3,t9,t10,t11,hk,hx,hk0,hm,Zn.cs]
    refine yh [some false,none,some false,some true,some true,some true] 3 (H++[.box 102 8 0 1 [iA 0,iA 0,iA 0,iA 0,sA ⟨#[]⟩,iA 0,iA 0,sA ⟨#[]⟩],.dead 0,.box 100 3 0 1 [iA v.kind,iA v.i,sA v.s]]) K.mixed (by kernel_rfl) (by kernel_rfl) (by kernel_rfl) (hE _) ?_
    simp -implicitDefEqProofs only[↓reduceIte,go_sem,ae,aw,Nat.reduceAdd,Nat.reduceLT,Nat.reduceLeDiff,Nat.reduceEqDiff,t3,hE']
    refine ab.ok (cl v v _) ?_
    by_cases c1:aN v v<0
    ·simp -implicitDefEqProofs only[↓reduceIte,go_sem,ae,aw,Nat.reduceAdd,Nat.reduceLT,Nat.reduceLeDiff,Nat.reduceEqDiff,t3,c1]
     refine ab.ok (cl v v _) ?_
     by_cases c2:0<aN v v
     ·have hst:aV ⟨zr,zn,zmn,zmx⟩ v=⟨zr,zn,v,v⟩:=by
        simp only[aV,fE,fP,gi,hk0,hm,c1,c2,if_true,if_false]
      rw[hst]
      simp -implicitDefEqProofs only[↓reduceIte,go_sem,ae,aw,Nat.reduceAdd,Nat.reduceLT,Nat.reduceEqDiff,t3,t11,c2]
      refine cO.cut [.box 102 8 0 1 [iA 0,iA 0,iA 0,iA 0,sA ⟨#[]⟩,iA 0,iA 0,sA ⟨#[]⟩],.box 102 8 0 1 (Zn.cs ⟨zr,zn,v,v⟩)] _ 2 rfl rfl (by simp -implicitDefEqProofs only[go_sem,Zn.cs]) ⟨⟨zr,zn,v,v⟩,rfl,rfl,?_⟩
      simp -implicitDefEqProofs only[↓reduceIte,go_sem,Nat.reduceLT,Nat.reduceEqDiff,t2,t3,t9,t10,hw]
     ·have hst:aV ⟨zr,zn,zmn,zmx⟩ v=⟨zr,zn,v,v⟩:=by
        simp only[aV,fE,fP,gi,hk0,hm,c1,c2,if_true,if_false]
      rw[hst]
      simp -implicitDefEqProofs only[↓reduceIte,go_sem,Nat.reduceLT,Nat.reduceEqDiff,t11,c2]
      refine cO.cut [.box 102 8 0 1 [iA 0,iA 0,iA 0,iA 0,sA ⟨#[]⟩,iA 0,iA 0,sA ⟨#[]⟩],.box 102 8 0 1 (Zn.cs ⟨zr,zn,v,v⟩)] _ 2 rfl rfl (by simp -implicitDefEqProofs only[go_sem,Zn.cs]) ⟨⟨zr,zn,v,v⟩,rfl,rfl,?_⟩
      simp -implicitDefEqProofs only[↓reduceIte,go_sem,Nat.reduceLT,Nat.reduceEqDiff,t2,t3,t9,t10,hw]
    ·simp -implicitDefEqProofs only[↓reduceIte,go_sem,ae,Nat.reduceAdd,Nat.reduceLT,Nat.reduceEqDiff,t3,c1]
     refine ab.ok (cl v v _) ?_
     by_cases c2:0<aN v v
     ·have hst:aV ⟨zr,zn,zmn,zmx⟩ v=⟨zr,zn,v,v⟩:=by
        simp only[aV,fE,fP,gi,hk0,hm,c1,c2,if_true,if_false]
      rw[hst]
      simp -implicitDefEqProofs only[↓reduceIte,go_sem,ae,aw,Nat.reduceAdd,Nat.reduceLT,Nat.reduceEqDiff,t3,t11,c2]
      refine cO.cut [.box 102 8 0 1 [iA 0,iA 0,iA 0,iA 0,sA ⟨#[]⟩,iA 0,iA 0,sA ⟨#[]⟩],.box 102 8 0 1 (Zn.cs ⟨zr,zn,v,v⟩)] _ 2 rfl rfl (by simp -implicitDefEqProofs only[go_sem,Zn.cs]) ⟨⟨zr,zn,v,v⟩,rfl,rfl,?_⟩
      simp -implicitDefEqProofs only[↓reduceIte,go_sem,Nat.reduceLT,Nat.reduceEqDiff,t2,t3,t9,t10,hw]
     ·have hst:aV ⟨zr,zn,zmn,zmx⟩ v=⟨zr,zn,v,v⟩:=by
        simp only[aV,fE,fP,gi,hk0,hm,c1,c2,if_true,if_false]
      rw[hst]
      simp -implicitDefEqProofs only[↓reduceIte,go_sem,Nat.reduceLT,Nat.reduceEqDiff,t11,c2]
      refine cO.cut [.box 102 8 0 1 [iA 0,iA 0,iA 0,iA 0,sA ⟨#[]⟩,iA 0,iA 0,sA ⟨#[]⟩],.box 102 8 0 1 (Zn.cs ⟨zr,zn,v,v⟩)] _ 2 rfl rfl (by simp -implicitDefEqProofs only[go_sem,Zn.cs]) ⟨⟨zr,zn,v,v⟩,rfl,rfl,?_⟩
      simp -implicitDefEqProofs only[↓reduceIte,go_sem,Nat.reduceLT,Nat.reduceEqDiff,t2,t3,t9,t10,hw]
   ·simp -implicitDefEqProofs only[↓reduceIte,go_sem,ae,aw,Nat.reduceAdd,Nat.reduceLT,Nat.reduceLeDiff,Nat.reduceEqDiff,t3,t9,t10,t11,hk,hx,hk0,hm,Zn.cs]
    refine ab.ok (cl v zmn _) ?_
    by_cases c1:aN v zmn<0
    ·simp -implicitDefEqProofs only[↓reduceIte,go_sem,ae,aw,Nat.reduceAdd,Nat.reduceLT,Nat.reduceLeDiff,Nat.reduceEqDiff,t3,c1]
     refine ab.ok (cl v zmx _) ?_
     by_cases c2:0<aN v zmx
     ·have hst:aV ⟨zr,zn,zmn,zmx⟩ v=⟨zr,zn,v,v⟩:=by
        simp only[aV,fE,fP,gi,hk0,hm,c1,c2,if_true,if_false]
      rw[hst]
      simp -implicitDefEqProofs only[↓reduceIte,go_sem,ae,aw,Nat.reduceAdd,Nat.reduceLT,Nat.reduceEqDiff,t3,t11,c2]
      refine cO.cut [.box 102 8 0 1 [iA 0,iA 0,iA 0,iA 0,sA ⟨#[]⟩,iA 0,iA 0,sA ⟨#[]⟩],.box 102 8 0 1 (Zn.cs ⟨zr,zn,v,v⟩)] _ 2 rfl rfl (by simp -implicitDefEqProofs only[go_sem,Zn.cs]) ⟨⟨zr,zn,v,v⟩,rfl,rfl,?_⟩
      simp -implicitDefEqProofs only[↓reduceIte,go_sem,Nat.reduceLT,Nat.reduceEqDiff,t2,t3,t9,t10,hw]
     ·have hst:aV ⟨zr,zn,zmn,zmx⟩ v=⟨zr,zn,v,zmx⟩:=by
        simp only[aV,fE,fP,gi,hk0,hm,c1,c2,if_true,if_false]
      rw[hst]
      simp -implicitDefEqProofs only[↓reduceIte,go_sem,Nat.reduceLT,Nat.reduceEqDiff,t11,c2]
      refine cO.cut [.box 102 8 0 1 [iA 0,iA 0,iA 0,iA 0,sA ⟨#[]⟩,iA 0,iA 0,sA ⟨#[]⟩],.box 102 8 0 1 (Zn.cs ⟨zr,zn,v,zmx⟩)] _ 2 rfl rfl (by simp -implicitDefEqProofs only[go_sem,Zn.cs]) ⟨⟨zr,zn,v,zmx⟩,rfl,rfl,?_⟩
      simp -implicitDefEqProofs only[↓reduceIte,go_sem,Nat.reduceLT,Nat.reduceEqDiff,t2,t3,t9,t10,hw]
    ·simp -implicitDefEqProofs only[↓reduceIte,go_sem,ae,Nat.reduceAdd,Nat.reduceLT,Nat.reduceEqDiff,t3,c1]
     refine ab.ok (cl v zmx _) ?_
     by_cases c2:0<aN v zmx
     ·have hst:aV ⟨zr,zn,zmn,zmx⟩ v=⟨zr,zn,zmn,v⟩:=by
        simp only[aV,fE,fP,gi,hk0,hm,c1,c2,if_true,if_false]
      rw[hst]
      simp -implicitDefEqProofs only[↓reduceIte,go_sem,ae,aw,Nat.reduceAdd,Nat.reduceLT,Nat.reduceEqDiff,t3,t11,c2]
      refine cO.cut [.box 102 8 0 1 [iA 0,iA 0,iA 0,iA 0,sA ⟨#[]⟩,iA 0,iA 0,sA ⟨#[]⟩],.box 102 8 0 1 (Zn.cs ⟨zr,zn,zmn,v⟩)] _ 2 rfl rfl (by simp -implicitDefEqProofs only[go_sem,Zn.cs]) ⟨⟨zr,zn,zmn,v⟩,rfl,rfl,?_⟩
      simp -implicitDefEqProofs only[↓reduceIte,go_sem,Nat.reduceLT,Nat.reduceEqDiff,t2,t3,t9,t10,hw]
     ·have hst:aV ⟨zr,zn,zmn,zmx⟩ v=⟨zr,zn,zmn,zmx⟩:=by
        simp only[aV,fE,fP,gi,hk0,hm,c1,c2,if_false]
      rw[hst]
      simp -implicitDefEqProofs only[↓reduceIte,go_sem,Nat.reduceLT,Nat.reduceEqDiff,t11,c2]
      refine cO.cut [.box 102 8 0 1 [iA 0,iA 0,iA 0,iA 0,sA ⟨#[]⟩,iA 0,iA 0,sA ⟨#[]⟩],.box 102 8 0 1 (Zn.cs ⟨zr,zn,zmn,zmx⟩)] _ 2 rfl rfl (by simp -implicitDefEqProofs only[go_sem,Zn.cs]) ⟨⟨zr,zn,zmn,zmx⟩,rfl,rfl,?_⟩
      simp -implicitDefEqProofs only[↓reduceIte,go_sem,Nat.reduceLT,Nat.reduceEqDiff,t2,t3,t9,t10,hw]
 ·rintro s H' ⟨z,hz,rfl,t2,t3,t9,t10,t11⟩
  rw[List.take_length]at hz
  have hz':n6 l=z:=hz.symm
  rw[hz']
  simp -implicitDefEqProofs only[↓reduceIte,go_sem,ae,aw,Nat.reduceAdd,Nat.reduceLT,Nat.reduceEqDiff,t2,t3,t10,t11,Zn.cs]
  refine cY.ret ?_
  simp -implicitDefEqProofs only[↓reduceIte,go_sem,ae,Nat.reduceAdd,Nat.reduceLeDiff,Nat.reduceEqDiff,bR,cZ,t2]
def nz(k:Int):Bool:=decide (1≤k)&&decide (k≤3)
theorem vl(k:Int)(H:aa):ah Tryz.prog 159 [iA k] H (.ok (bA (nz k))) H:=by
 refine ah.aj (hint:=(fun _=>false)) Tryz.func159 (by kernel_rfl) rfl [2] (by kernel_rfl) (by decide) (by simp[Tryz.ntmps159]) ?_
 rw[Tryz.ntmps159]
 by_cases h:1≤k
 ·simp -implicitDefEqProofs only[↓reduceIte,go_sem,Nat.reduceLT,Nat.reduceEqDiff,reduceCtorEq,h]
  refine ao.aF ?_
  simp -implicitDefEqProofs only[↓reduceIte,go_sem,Nat.reduceLT,nz,h]
 ·simp -implicitDefEqProofs only[↓reduceIte,go_sem,Nat.reduceLT,Nat.reduceEqDiff,reduceCtorEq,h]
  refine ao.aF ?_
  simp -implicitDefEqProofs only[↓reduceIte,go_sem,Nat.reduceLT,nz,h]
def bg(l:List ak)(k:Int):Int:=if !nz k then 1 else if 4096<l.length then 2 else if l.any (fun v=> !decide (v.kind=k))then 7 else if l.any (fun v=> !eL v)then 1 else 0
theorem tD(v:ak)(k:Int)(id:Nat)(H:aa)(hb:H[id]?=some (.box 3 1 0 1 [iA k])):ah Tryz.prog 157 [v.av,.ptr id 0 0 0] H (.ok (bA (!decide (v.kind=k)))) H:=by
 have hlt:id<H.length:=(List.getElem?_eq_some_iff.1 hb).1
 refine ah.aj (hint:=(fun _=>false)) Tryz.func157 (by kernel_rfl) rfl [3] (by kernel_rfl) (by decide) (by simp[Tryz.ntmps157]) ?_
 rw[Tryz.ntmps157]
 simp -implicitDefEqProofs only[↓reduceIte,go_sem,ae,Nat.reduceAdd,Nat.reduceLT,Nat.reduceLeDiff,Nat.reduceEqDiff,hb,List.getElem?_append_left hlt]
 refine ao.ret ?_
 simp -implicitDefEqProofs only[↓reduceIte,go_sem,Nat.reduceLT]
theorem tx(v:ak)(H:aa):ah Tryz.prog 158 [v.av] H (.ok (bA (!eL v))) H:=by
 refine ah.aj (hint:=(fun _=>false)) Tryz.func158 (by kernel_rfl) rfl [2] (by kernel_rfl) (by decide) (by simp[Tryz.ntmps158]) ?_
 rw[Tryz.ntmps158]
 simp -implicitDefEqProofs only[↓reduceIte,go_sem,ae,Nat.reduceAdd,Nat.reduceLT,Nat.reduceEqDiff]
 refine ab.ok (e9 v _) ?_
 simp -implicitDefEqProofs only[↓reduceIte,go_sem,Nat.reduceLT]
 refine ao.ret ?_
 simp -implicitDefEqProofs only[↓reduceIte,go_sem,Nat.reduceLT]
theorem db(l:List ak)(k:Int)(nn:Bool)(H:aa)(hl:l.length≤9223372036854775807):ah Tryz.prog 124 [.d (.list nn (l.map ak.enc)),iA k] H (.ok (iA (bg l k))) H:=by
 refine ah.aj (hint:=(fun _=>false)) Tryz.func124 (by kernel_rfl) rfl [4] (by kernel_rfl) (by decide) (by simp[Tryz.ntmps124]) ?_
 rw[Tryz.ntmps124]
 simp -implicitDefEqProofs only[↓reduceIte,go_sem,ae,Nat.reduceLT,Nat.reduceEqDiff]
 refine ab.ok (vl k _) ?_
 cases h1:nz k with
 |false=>
  simp -implicitDefEqProofs only[↓reduceIte,go_sem,Nat.reduceLT]
  refine ao.ret ?_
  simp -implicitDefEqProofs only[↓reduceIte,go_sem,Nat.reduceLT,bg,h1]
 |true=>
  by_cases h2:4096<l.length
  ·simp -implicitDefEqProofs only[↓reduceIte,go_sem,Nat.reduceLT,reduceCtorEq,show((4096:Int)<(l.length:Int))=True from eq_true (by omega)]
   refine ao.ret ?_
   simp -implicitDefEqProofs only[↓reduceIte,go_sem,Nat.reduceLT,bg,h1,h2,Bool.false_eq_true]
  ·simp -implicitDefEqProofs only[↓reduceIte,go_sem,Nat.reduceLT,Nat.reduceEqDiff,reduceCtorEq,show((4096:Int)<(l.length:Int))=False from eq_false (by omega)]
   refine ab.ok (fp l (fun v=> !decide (v.kind=k)) _ _ nn _ hl fun v _=>tD v k _ _ (by simp)) ?_
   cases h3:l.any (fun v=> !decide (v.kind=k))with
   |true=>
    simp -implicitDefEqProofs only[↓reduceIte,go_sem,Nat.reduceLT]
    refine ao.ret ?_
    simp -implicitDefEqProofs only[↓reduceIte,go_sem,Nat.reduceLT,bg,h1,h2,h3,Bool.false_eq_true]
   |false=>
    simp -implicitDefEqProofs only[↓reduceIte,go_sem,Nat.reduceLT,Nat.reduceEqDiff,reduceCtorEq]
    refine ab.ok (fp l (fun v=> !eL v) _ _ nn _ hl fun v _=>tx v _) ?_
    cases h4:l.any (fun v=> !eL v)with
    |true=>
     simp -implicitDefEqProofs only[↓reduceIte,go_sem,Nat.reduceLT]
     refine ao.ret ?_
     simp -implicitDefEqProofs only[↓reduceIte,go_sem,Nat.reduceLT,bg,h1,h2,h3,h4,Bool.false_eq_true]
    |false=>
     simp -implicitDefEqProofs only[↓reduceIte,go_sem,Nat.reduceLT]
     refine ao.ret ?_
     simp -implicitDefEqProofs only[↓reduceIte,go_sem,Nat.reduceLT,bg,h1,h2,h3,h4,Bool.false_eq_true]
def jt(n:Int):Nat:=if 0≤n then(2* n).toNat else(-2* n-1).toNat
theorem wV(n:Int):IntKind.u64.wrap n=n%18446744073709551616:=by simp[IntKind.wrap,IntKind.signed,IntKind.bits]
theorem DU(c:Nat)(h:c<18446744073709551616):c^^^18446744073709551615=18446744073709551615-c:=by
 have:=Nat.testBit_two_pow_sub_succ (x:=c) (n:=64) h
 apply Nat.eq_of_testBit_eq
 intro i
 rw[Nat.testBit_xor]
 have h2:=this i
 rw[show 2^64-(c+1)=18446744073709551615-c from by omega]at h2
 rw[h2]
 have h3:(18446744073709551615:Nat).testBit i=decide (i<64):=by
  have:=Nat.testBit_two_pow_sub_one 64 i
  simpa using this
 rw[h3]
 by_cases hi:i<64
 ·simp[hi]
 ·have h5:2^64≤2^i:=Nat.pow_le_pow_right (by omega) (by omega)
  have:c.testBit i=false:=Nat.testBit_lt_two_pow (by omega)
  simp[hi,this]
theorem Ep(n:Int)(h1:-9223372036854775808≤n)(h2:n≤9223372036854775807):
  IntKind.u64.wrap (Fb .u64 (IntKind.u64.wrap (vW .u64 (IntKind.u64.wrap n) 1)) (IntKind.u64.wrap (j5 .i64 n 63)))=((jt n:Nat):Int):=by
 have s1:vW .u64 (IntKind.u64.wrap n) 1=IntKind.u64.wrap n* 2:=by simp[vW,IntKind.bits]
 have s2:j5 .i64 n 63=n.fdiv 9223372036854775808:=by simp[j5,IntKind.bits]
 rw[s1,s2]
 by_cases h:0≤n
 ·have e1:IntKind.u64.wrap (IntKind.u64.wrap n* 2)=(((2* n).toNat:Nat):Int):=by rw[wV,wV];omega
  have e2:IntKind.u64.wrap (n.fdiv 9223372036854775808)=((0:Nat):Int):=by
   rw[show n.fdiv 9223372036854775808=0 from by rw[Int.fdiv_eq_ediv_of_nonneg _ (by decide)];omega];rfl
  rw[e1,e2]
  have e:=bits_xor_u64_nat (2* n).toNat 0 (by omega) (by omega)
  rw[Nat.xor_zero]at e
  unfold jt
  rw[if_pos h]
  exact e
 ·have e1:IntKind.u64.wrap (IntKind.u64.wrap n* 2)=(((2* n+18446744073709551616).toNat:Nat):Int):=by rw[wV,wV];omega
  have e2:IntKind.u64.wrap (n.fdiv 9223372036854775808)=((18446744073709551615:Nat):Int):=by
   rw[show n.fdiv 9223372036854775808=-1 from by rw[Int.fdiv_eq_ediv_of_nonneg _ (by decide)];omega];rfl
  rw[e1,e2]
  have e:=bits_xor_u64_nat (2* n+18446744073709551616).toNat 18446744073709551615 (by omega) (by omega)
  rw[DU _ (by omega)]at e
  unfold jt
  rw[if_neg h,show(-2* n-1).toNat=18446744073709551615-(2* n+18446744073709551616).toNat from by omega]
  exact e
theorem nR(n:Int)(h1:-9223372036854775808≤n)(h2:n≤9223372036854775807)(H:aa):ah Tryz.prog 165 [iA n] H (.ok (du (jt n))) H:=by
 refine ah.aj (hint:=(fun _=>false)) Tryz.func165 (by kernel_rfl) rfl [2] (by kernel_rfl) (by decide) (by simp[Tryz.ntmps165]) ?_
 rw[Tryz.ntmps165]
 simp -implicitDefEqProofs only[↓reduceIte,go_sem,Nat.reduceLT,Nat.reduceEqDiff,Int.reduceLE,reduceCtorEq,Ep n h1 h2]
 refine ao.aF ?_
 simp -implicitDefEqProofs only[↓reduceIte,go_sem,Nat.reduceLT]
def c3(n:Nat):Nat:=if n=0 then 0 else n.log2+1
theorem en(n w:Nat):c3 n≤w↔n<2^w:=by
 unfold c3
 split
 ·subst_vars;simp[Nat.two_pow_pos]
 ·rename_i h
  rw[←Nat.log2_lt h];omega
theorem oF(n k:Nat)(h:2^k≤n):c3 n=k+c3 (n/2^k):=by
 have key:∀w,c3 n≤w↔k+c3 (n/2^k)≤w:=by
  intro w
  rcases Nat.lt_or_ge w k with hw|hw
  ·rw[en]
   have:2^w≤2^k:=Nat.pow_le_pow_right (by omega) (by omega)
   omega
  ·rw[show(k+c3 (n/2^k)≤w)=(c3 (n/2^k)≤w-k)from propext ⟨fun h=>by omega,fun h=>by omega⟩,en,en,Nat.div_lt_iff_lt_mul (Nat.two_pow_pos k),←Nat.pow_add,Nat.sub_add_cancel hw]
 exact Nat.le_antisymm ((key _).2 (Nat.le_refl _)) ((key _).1 (Nat.le_refl _))
theorem yu{n:Nat}(h:n<18446744073709551616):c3 n≤64:=(en n 64).2 h
theorem DM:∀n,n<256→∀b:ByteArray,b.data.toList=(List.range 256).map (fun n=>UInt8.ofNat (c3 n))→b[n]?=some (UInt8.ofNat (c3 n)):=by
 intro n hn b hb
 have:b.data[n]?=some (UInt8.ofNat (c3 n)):=by
  rw[←Array.getElem?_toList,hb];simp[hn]
 obtain⟨h1,h2⟩:=Array.getElem?_eq_some_iff.1 this
 rw[getElem?_pos b n h1]
 exact congrArg some h2
theorem y5{n:Nat}(h:n<256):(UInt8.ofNat (c3 n)).toNat=c3 n:=by
 have:c3 n≤8:=(en n 8).2 h
 simp;omega
theorem lu(n:Nat):(4294967296≤n→c3 n=32+c3 (n/4294967296))∧(65536≤n→c3 n=16+c3 (n/65536))∧(256≤n→c3 n=8+c3 (n/256)):=
 ⟨oF n 32,oF n 16,oF n 8⟩
theorem oC(n:Nat)(hn:n<18446744073709551616)(H:aa):ah Tryz.prog 207 [du n] H (.ok (iA (c3 n))) H:=by
 have s32:∀n:Nat,j5 .u64 (n:Int) 32=((n/4294967296:Nat):Int):=fun n=>sG n 32 (by decide)
 have s16:∀n:Nat,j5 .u64 (n:Int) 16=((n/65536:Nat):Int):=fun n=>sG n 16 (by decide)
 have s8:∀n:Nat,j5 .u64 (n:Int) 8=((n/256:Nat):Int):=fun n=>sG n 8 (by decide)
 have w48:IntKind.i64.wrap 48=48:=rfl
 have w56:IntKind.i64.wrap 56=56:=rfl
 have w40:IntKind.i64.wrap 40=40:=rfl
 have w24:IntKind.i64.wrap 24=24:=rfl
 have w16:IntKind.i64.wrap 16=16:=rfl
 have w8:IntKind.i64.wrap 8=8:=rfl
 have fin:∀(r:Int) (q m:Nat),r=(q:Int)→q≤56→m<256→IntKind.i64.wrap (r+IntKind.i64.wrap ((c3 m:Nat):Int))=((q+c3 m:Nat):Int):=fun r q m h0 hr hm=>by
  have:=(en m 8).2 hm
  rw[wrap64_in (c3 m:Int) (by omega) (by omega),wrap64_in _ (by omega) (by omega)]
  omega
 refine ah.aj (hint:=(fun _=>false)) Tryz.func207 (by kernel_rfl) rfl [2] (by kernel_rfl) (by decide) (by simp[Tryz.ntmps207]) ?_
 rw[Tryz.ntmps207]
 simp -implicitDefEqProofs only[↓reduceIte,go_sem,Nat.reduceLT,reduceCtorEq]
 by_cases h:(4294967296:Int)≤(n:Int)
 all_goals first
  |(have e1:=(lu n).1 (by omega)
    simp -implicitDefEqProofs only[↓reduceIte,go_sem,Nat.reduceLT,Int.reduceLE,reduceCtorEq,h,s32]
    have hn1:n/4294967296<4294967296:=by omega
    generalize n/4294967296=n1 at e1 hn1⊢)
  |(simp -implicitDefEqProofs only[↓reduceIte,go_sem,Nat.reduceLT,reduceCtorEq,h]
    obtain⟨n1,g1⟩:∃n1,n1=n:=⟨_,rfl⟩
    have hn1:n1<4294967296:=by omega
    have e1:c3 n=0+c3 n1:=by rw[g1];omega
    rw[←g1])
 all_goals
  by_cases h2:(65536:Int)≤(n1:Int)
  all_goals first
   |(have e2:=(lu n1).2.1 (by omega)
     simp -implicitDefEqProofs only[↓reduceIte,go_sem,Nat.reduceLT,Nat.reduceEqDiff,Int.reduceLE,Int.reduceAdd,reduceCtorEq,h2,s16,w48]
     have hn2:n1/65536<65536:=by omega
     generalize n1/65536=n2 at e2 hn2⊢)
   |(simp -implicitDefEqProofs only[↓reduceIte,go_sem,Nat.reduceLT,reduceCtorEq,h2]
     obtain⟨n2,g2⟩:∃n2,n2=n1:=⟨_,rfl⟩
     have hn2:n2<65536:=by omega
     have e2:c3 n1=0+c3 n2:=by rw[g2];omega
     rw[←g2])
  all_goals
   by_cases h3:(256:Int)≤(n2:Int)
   all_goals first
    |(have e3:=(lu n2).2.2 (by omega)
      simp -implicitDefEqProofs only[↓reduceIte,go_sem,Nat.reduceLT,Nat.reduceEqDiff,Int.reduceLE,Int.reduceAdd,reduceCtorEq,h3,s8,w56,w40,w24,w16,w8]
      have hn3:n2/256<256:=by omega
      generalize n2/256=n3 at e3 hn3⊢)
    |(simp -implicitDefEqProofs only[↓reduceIte,go_sem,Nat.reduceLT,Nat.reduceEqDiff,reduceCtorEq,h3]
      obtain⟨n3,g3⟩:∃n3,n3=n2:=⟨_,rfl⟩
      have hn3:n3<256:=by omega
      have e3:c3 n2=0+c3 n3:=by rw[g3];omega
      rw[←g3])
   all_goals
    simp -implicitDefEqProofs only[go_sem,rl n3 hn3]
    rw[DM n3 hn3 _ (by kernel_rfl)]
    simp -implicitDefEqProofs only[↓reduceIte,go_sem,Nat.reduceLT,Nat.reduceEqDiff,y5 hn3]
    refine ao.aF ?_
    have f0:=fin 0 0 n3 rfl (by decide) hn3
    have f8:=fin 8 8 n3 rfl (by decide) hn3
    have f16:=fin 16 16 n3 rfl (by decide) hn3
    have f24:=fin 24 24 n3 rfl (by decide) hn3
    have f32:=fin 32 32 n3 rfl (by decide) hn3
    have f40:=fin 40 40 n3 rfl (by decide) hn3
    have f48:=fin 48 48 n3 rfl (by decide) hn3
    have f56:=fin 56 56 n3 rfl (by decide) hn3
    simp -implicitDefEqProofs only[↓reduceIte,go_sem,Nat.reduceLT,w16,f0,f8,f16,f24,f32,f40,f48,f56]
    all_goals
     refine congrArg (fun m:Nat=>iA m) ?_
     first|omega|(simp only[e1,e2,e3];omega)
def us(l:List Nat):List (List D):=l.map fun(n:Nat)=>[.v (.int .u64 (n:Int))]
def dx(l:List Nat):List (List D):=l.map fun(n:Nat)=>[.v (.int .u8 (n:Int))]
theorem lg(l:List Nat):(us l).length=l.length:=by simp[us]
theorem bK(l:List Nat):(dx l).length=l.length:=by simp[dx]
theorem DR:us []=[]:=rfl
theorem xe:dx []=[]:=rfl
theorem zP(l:List Nat)(k:Nat)(h:k<l.length):(us l)[k]?=some [.v (.int .u64 (l[k]:Int))]:=by simp[us,h]
theorem wR(l:List Nat)(n:Nat):us l++[[.v (.int .u64 (n:Int))]]=us (l++[n]):=by simp[us]
theorem kE(l:List Nat)(n:Nat):dx l++[[.v (.int .u8 (n:Int))]]=dx (l++[n]):=by simp[dx]
theorem gQ(l m:List Nat):dx l++dx m=dx (l++m):=by simp[dx]
theorem Bt(l:List Nat)(k n:Nat):(dx l).set k [.v (.int .u8 (n:Int))]=dx (l.set k n):=by simp[dx,List.map_set]
theorem fM(l:List Nat):(∀c∈dx l,c.length=1)=True:=eq_true fun c hc=>by obtain⟨x,_,rfl⟩:=List.mem_map.1 hc;rfl
def fD(l:List Nat):Nat:=c3 (l.foldl (·|||·) 0)
theorem lZ{l:List Nat}(h:∀n∈l,n<18446744073709551616):∀{a:Nat},a<18446744073709551616→l.foldl (·|||·) a<18446744073709551616:=by
 induction l with
 |nil=>exact fun h=>h
 |cons x l ih=>exact fun{a} ha=>ih (fun n hn=>h n (by simp[hn])) (Nat.or_lt_two_pow (n:=64) ha (h x (by simp)))
theorem nm(l:List Nat)(nn:Bool)(H:aa)(hl:l.length≤9223372036854775807)(hu:∀n∈l,n<18446744073709551616):ah Tryz.prog 235 [.d (.list nn (us l))] H (.ok (iA (fD l))) H:=by
 refine ah.aj (hint:=(fun _=>false)) Tryz.func235 (by kernel_rfl) rfl [2] (by kernel_rfl) (by decide) (by simp[Tryz.ntmps235]) ?_
 rw[Tryz.ntmps235]
 simp -implicitDefEqProofs only[↓reduceIte,go_sem,Nat.reduceLT,reduceCtorEq,lg]
 refine bf (fun k s H'=>H'=H∧s 3=du ((l.take k).foldl (·|||·) 0)∧s 6= .d (.list nn (us l))∧s 7=iA l.length∧s 8=iA k) l.length hl (an.refl _ _) ?_ ?_ ?_
 ·refine⟨rfl,?_⟩
  simp -implicitDefEqProofs only[↓reduceIte,go_sem,Nat.reduceLT,Nat.reduceEqDiff,List.take_zero,List.foldl_nil]
  rfl
 ·rintro k s H' hk hw ⟨rfl,t3,t6,t7,t8⟩
  have hx:=zP l k hk
  have e1:=List.take_succ_eq_append_getElem hk
  have hb:(l.take k).foldl (·|||·) 0<18446744073709551616:=lZ (fun n hn=>hu n (List.mem_of_mem_take hn)) (by decide)
  have hc:=hu _ (List.getElem_mem hk)
  have e2:(l.take (k+1)).foldl (·|||·) 0=(l.take k).foldl (·|||·) 0|||l[k]:=by rw[e1,List.foldl_append];rfl
  generalize l[k]=x at hx hc e2
  generalize (l.take k).foldl (·|||·) 0=A at*
  have hor:=qE .u64 A x hb hc
  have hd:A|||x<18446744073709551616:=Nat.or_lt_two_pow (n:=64) hb hc
  simp -implicitDefEqProofs only[↓reduceIte,go_sem,Nat.reduceLT,Nat.reduceEqDiff,t3,t6,t7,t8,hk,hx,hor,cM _ hd]
  refine cO.same ⟨rfl,?_⟩
  simp -implicitDefEqProofs only[↓reduceIte,go_sem,Nat.reduceLT,Nat.reduceEqDiff,t6,t7,hw,e2]
 ·rintro s H' ⟨rfl,t3,t6,t7,t8⟩
  simp -implicitDefEqProofs only[↓reduceIte,go_sem,Nat.reduceLT,Nat.reduceEqDiff,t3,t7,t8]
  rw[List.take_length]
  refine ab.ok (oC _ (lZ hu (by decide)) _) ?_
  simp -implicitDefEqProofs only[↓reduceIte,go_sem,Nat.reduceLT]
  refine ao.aF ?_
  simp -implicitDefEqProofs only[↓reduceIte,go_sem,Nat.reduceLT,fD]
def cA(n:Nat):List Nat:=if h:n<128 then[n]else(n%128+128)::cA (n/128)
termination_by n
theorem jY{n:Nat}(h:n<128):cA n=[n]:=by rw[cA];simp[h]
theorem tM{n:Nat}(h:¬n<128):cA n=(n%128+128)::cA (n/128):=by rw[cA];simp[h]
theorem E6:∀m,m<256→m|||128=m%128+128:=by decide+kernel
theorem Cu(n:Nat):IntKind.u8.wrap (Ev .u8 ((n%256:Nat):Int) 128)=((n%128+128:Nat):Int):=by
 have:=qE .u8 (n%256) 128 (Nat.mod_lt _ (by decide)) (by decide)
 rw[show((128:Nat):Int)=128 from rfl]at this
 rw[this,E6 _ (Nat.mod_lt _ (by decide))]
 rw[show n%256%128=n%128 from Nat.mod_mod_of_dvd n (by decide)]
 exact p7 _ (by omega) (by omega)
theorem fO(n0:Nat)(hn:n0<18446744073709551616)(H:aa):ah Tryz.prog 83 [du n0] H (.ok (.sl H.length (cA n0).length 0 (cA n0).length)) (H++[.arr 5 1 (cA n0).length (dx (cA n0))]):=by
 have s7:∀n:Nat,j5 .u64 (n:Int) 7=((n/128:Nat):Int):=fun n=>sG n 7 (by decide)
 refine ah.aj (hint:=(fun _=>false)) Tryz.func83 (by kernel_rfl) rfl [2] (by kernel_rfl) (by decide) (by simp[Tryz.ntmps83]) ?_
 rw[Tryz.ntmps83]
 simp -implicitDefEqProofs only[go_sem]
 refine br _ _ _ _ (fun(x:Nat×List Nat) s H'=>H'=H++[.arr 5 1 x.2.length (dx x.2)]∧x.1* 128^x.2.length≤n0∧(x.2.length=0∨0<x.1)∧cA n0=x.2++cA x.1∧s 0=du x.1∧s 3= .sl H.length x.2.length 0 x.2.length) (fun x=>x.1) (n0,[]) (an.fy _ _ 3 5 1 (by decide) (by simp -implicitDefEqProofs only[↓reduceIte,go_sem,Nat.reduceLT]) _) ?_ ?_
 ·refine⟨?_,by simp,.inl rfl,by simp,?_⟩
  ·simp -implicitDefEqProofs only[go_sem,xe,List.length_nil]
  ·simp -implicitDefEqProofs only[↓reduceIte,go_sem,reduceCtorEq,List.length_nil]
 ·rintro⟨n,bs⟩ s H' ⟨rfl,h1,h3,h2,t0,t3⟩
  simp only at h1 h2 h3 t0 t3
  have hb:bs.length<10:=by
   rcases Nat.lt_or_ge bs.length 10 with h|h
   ·exact h
   ·exfalso
    have h4:128^10≤128^bs.length:=Nat.pow_le_pow_right (by decide) h
    have h5:1* 128^bs.length≤n* 128^bs.length:=Nat.mul_le_mul_right _ (by omega)
    omega
  have hnn:n≤n0:=Nat.le_trans (Nat.le_mul_of_pos_right _ (Nat.pow_pos (by decide))) h1
  by_cases hlt:(128:Int)≤(n:Int)
  ·have hpb:=Cu n
   have hp2:=tM (n:=n) (by omega)
   generalize n%128+128=m at hpb hp2
   simp -implicitDefEqProofs only[↓reduceIte,go_sem,Nat.reduceLT,Nat.reduceLeDiff,Nat.reduceEqDiff,Int.reduceLE,reduceCtorEq,t0,t3,hlt,lG,hpb,bK,kE,s7]
   refine⟨by omega,by omega,_,_,(n/128,bs++[m]),.refl _ _,⟨?_,?_,.inr (by simp only;omega),?_,?_⟩,by simp only;omega⟩
   ·simp -implicitDefEqProofs only[go_sem,List.length_append]
   ·simp only[List.length_append,List.length_singleton,Nat.pow_succ]
    have:n/128* (128^bs.length* 128)=(n/128* 128)* 128^bs.length:=by rw[Nat.mul_comm (128^_),←Nat.mul_assoc]
    rw[this]
    exact Nat.le_trans (Nat.mul_le_mul_right _ (Nat.div_mul_le_self n 128)) h1
   ·rw[h2,hp2];simp
   ·simp -implicitDefEqProofs only[↓reduceIte,go_sem,Nat.reduceLT,Nat.reduceEqDiff,reduceCtorEq,List.length_append]
  ·have hm:n%256=n:=by omega
   simp -implicitDefEqProofs only[↓reduceIte,go_sem,Nat.reduceLT,Nat.reduceLeDiff,Nat.reduceEqDiff,reduceCtorEq,t0,t3,hlt,lG,bK,hm,kE]
   have:cA n0=bs++[n]:=by rw[h2,jY (by omega)]
   rw[this,List.length_append,List.length_singleton]
   exact⟨by omega,by omega,_,an.refl _ _,by simp -implicitDefEqProofs only[↓reduceIte,go_sem,Nat.reduceLT]⟩
theorem nI(n0:Nat)(hn:n0<18446744073709551616)(H:aa):ah Tryz.prog 83 [du n0] H (.ok (.d (.list false (dx (cA n0))))) H:=(fO n0 hn H).list (bK _)
def byteOf:List Bool→Nat
 |[]=>0
 |b::r=>b.toNat+2* byteOf r
theorem lq:∀l:List Bool,byteOf l<2^l.length
 |[]=>by simp[byteOf]
 |b::r=>by
  have:=lq r
  simp only[byteOf,List.length_cons,Nat.pow_succ]
  cases b<;>simp<;>omega
theorem my:∀(l:List Bool) (b:Bool),byteOf (l++[b])=byteOf l+b.toNat* 2^l.length
 |[],b=>by simp[byteOf]
 |c::r,b=>by
  simp only[List.cons_append,byteOf,my r b,List.length_cons,Nat.pow_succ]
  rw[Nat.mul_add,←Nat.mul_assoc 2,Nat.mul_comm 2 b.toNat,Nat.mul_assoc b.toNat,Nat.mul_comm 2 (2^_)]
  omega
def dZ(l:List Bool)(i:Nat):Nat:=byteOf ((l.drop (8* i)).take 8)
def cP(l:List Bool):List Nat:=(List.range ((l.length+7)/8)).map (dZ l)
theorem gp(l:List Bool):(cP l).length=(l.length+7)/8:=by simp[cP]
def dU(l:List Bool):List Nat:=(List.range (l.length/8+1)).map (dZ l)
theorem zo(l:List Bool):(dU l).length=l.length/8+1:=by simp[dU]
theorem n7{l:List Bool}(h:l.length%8=0):dU l=cP l++[0]:=by
 unfold dU cP
 rw[show(l.length+7)/8=l.length/8 by omega,List.range_succ,List.map_append]
 congr 1
 simp only[List.map_cons,List.map_nil,dZ]
 rw[List.drop_of_length_le (by omega)]
 rfl
theorem wo{l:List Bool}(h:¬l.length%8=0):dU l=cP l:=by
 unfold dU cP
 rw[show(l.length+7)/8=l.length/8+1 by omega]
theorem zq(l:List Bool)(i:Nat):dZ l i<256:=by
 have h1:=lq ((l.drop (8* i)).take 8)
 have h2:((l.drop (8* i)).take 8).length≤8:=by simp;omega
 have:2^((l.drop (8* i)).take 8).length≤2^8:=Nat.pow_le_pow_right (by decide) h2
 unfold dZ;omega
theorem xF(l:List Bool):(dU l)[l.length/8]?=some (dZ l (l.length/8)):=by simp[dU]
theorem mb(l:List Bool):dZ l (l.length/8)=byteOf (l.drop (8* (l.length/8))):=by
 unfold dZ
 rw[List.take_of_length_le (by simp;omega)]
theorem nS(l:List Bool):dZ l (l.length/8)<2^(l.length%8):=by
 rw[mb]
 have:=lq (l.drop (8* (l.length/8)))
 rwa[List.length_drop,show l.length-8* (l.length/8)=l.length%8 by omega]at this
theorem wz(l:List Bool)(b:Bool):cP (l++[b])=(dU l).set (l.length/8) (dZ l (l.length/8)+b.toNat* 2^(l.length%8)):=by
 apply List.ext_getElem?
 intro i
 rw[List.getElem?_set]
 unfold cP dU
 simp only[List.getElem?_map,List.length_append,List.length_singleton,List.length_map,List.length_range]
 rw[show(l.length+1+7)/8=l.length/8+1 by omega]
 by_cases h:l.length/8=i
 ·subst h
  rw[if_pos rfl,if_pos (by omega),List.getElem?_range (by omega)]
  simp only[Option.map_some]
  congr 1
  rw[mb]
  unfold dZ
  rw[List.drop_append_of_le_length (by omega),List.take_of_length_le (by simp;omega),my,List.length_drop,show l.length-8* (l.length/8)=l.length%8 by omega]
 ·rw[if_neg h]
  by_cases hi:i<l.length/8+1
  ·rw[List.getElem?_range hi]
   simp only[Option.map_some]
   congr 1
   unfold dZ
   rw[List.drop_append_of_le_length (by omega),List.take_append_of_le_length (by simp;omega)]
  ·rw[List.getElem?_eq_none (by simpa using hi)]
   rfl
def eE(n w:Nat):List Bool:=(List.range w).map fun i=>n.testBit i
theorem pL(n w:Nat):(eE n w).length=w:=by simp[eE]
theorem vL(n w:Nat):eE n (w+1)=eE n w++[n.testBit w]:=by simp[eE,List.range_succ]
def wH(G:aa)(l:List Bool):aa:=G++[.box 237 2 0 1 [.sl (G.length+1) (cP l).length 0 (cP l).length,iA l.length],.arr 5 1 (cP l).length (dx (cP l))]
theorem DB(n i:Nat)(hn:n<18446744073709551616)(hi:i≤64):IntKind.u8.wrap (IntKind.u64.wrap (z7 .u64 (j5 .u64 (n:Int) (i:Int)) 1))=(((n.testBit i).toNat:Nat):Int):=by
 rw[sG n i hi]
 have h1:n/2^i<18446744073709551616:=Nat.lt_of_le_of_lt (Nat.div_le_self _ _) hn
 have:=zF .u64 (n/2^i) 1 h1 (by decide)
 rw[show((1:Nat):Int)=1 from rfl]at this
 rw[this,Nat.and_one_is_mod,cM _ (by omega),rl _ (by omega),Nat.testBit_eq_decide_div_mod_eq]
 rcases Nat.mod_two_eq_zero_or_one (n/2^i)with h|h<;>rw[h]<;>rfl
theorem GX(b:Bool)(j:Nat)(hj:j<8):IntKind.u8.wrap (vW .u8 ((b.toNat:Nat):Int) (j:Int))=((b.toNat* 2^j:Nat):Int):=by
 have h1:min j 8=j:=by omega
 have h2:2^j≤2^7:=Nat.pow_le_pow_right (by decide) (by omega)
 have h3:vW .u8 ((b.toNat:Nat):Int) (j:Int)=((b.toNat* 2^j:Nat):Int):=by
  simp only[vW,IntKind.bits,Int.toNat_natCast,h1]
  norm_cast
 rw[h3]
 refine rl _ ?_
 cases b
 ·simp
 ·simp;omega
theorem HS(x:Nat)(b:Bool)(j:Nat)(hj:j<8)(hx:x<2^j):IntKind.u8.wrap (Ev .u8 (x:Int) ((b.toNat* 2^j:Nat):Int))=((x+b.toNat* 2^j:Nat):Int):=by
 have h2:2^j≤2^7:=Nat.pow_le_pow_right (by decide) (by omega)
 have h3:b.toNat* 2^j≤2^j:=by cases b<;>simp
 rw[qE .u8 x (b.toNat* 2^j) (by simp[IntKind.bits];omega) (by simp[IntKind.bits];omega)]
 have h4:x|||b.toNat* 2^j=x+b.toNat* 2^j:=by
  rw[Nat.or_comm,Nat.mul_comm,←Nat.two_pow_add_eq_or_of_lt hx]
  omega
 rw[h4]
 exact rl _ (by omega)
theorem BI(n:Nat):Int.tmod (n:Int) 8=((n%8:Nat):Int):=by rw[Int.tmod_eq_emod_of_nonneg (by omega)];rfl
theorem F2(n:Nat):Int.tdiv (n:Int) 8=((n/8:Nat):Int):=by rw[Int.tdiv_eq_ediv_of_nonneg (by omega)];rfl
theorem px(n w:Nat)(hw:w≤64)(hn:n<2^w)(G:aa)(l0:List Bool)(hl:l0.length≤100000000):ah Tryz.prog 168 [.ptr G.length 0 0 0,du n,iA w] (wH G l0) (.ok (iA 0)) (wH G (l0++eE n w)):=by
 have hn64:n<18446744073709551616:=Nat.lt_of_lt_of_le hn (Nat.pow_le_pow_right (by decide) hw)
 have hlen:=(en n w).2 hn
 generalize hE:wH G (l0++eE n w)=E
 refine ah.aj (hint:=(fun _=>false)) Tryz.func168 (by kernel_rfl) rfl [6] (by kernel_rfl) (by decide) (by simp[Tryz.ntmps168]) ?_
 rw[Tryz.ntmps168]
 simp -implicitDefEqProofs only[↓reduceIte,go_sem,Nat.reduceLT,Nat.reduceEqDiff,reduceCtorEq,wH,show((w:Int)<0)=False from eq_false (by omega),show((64:Int)<(w:Int))=False from eq_false (by omega)]
 refine ab.ok (oC n hn64 _) ?_
 simp -implicitDefEqProofs only[↓reduceIte,go_sem,Nat.reduceLT,Nat.reduceEqDiff,reduceCtorEq,show(((w:Nat):Int)<((c3 n:Nat):Int))=False from eq_false (by omega)]
 refine bf (fun k s H'=>H'=wH G (l0++eE n k)∧s 0= .ptr G.length 0 0 0∧s 1=du n∧s 24=iA w∧s 25=iA k) w (by omega) (an.refl _ _) ?_ ?_ ?_
 ·refine⟨by simp[eE,wH],?_⟩
  simp -implicitDefEqProofs only[↓reduceIte,go_sem,Nat.reduceLT,Nat.reduceEqDiff,reduceCtorEq]
 ·rintro k s H' hk hw2 ⟨rfl,t0,t1,t24,t25⟩
  have hs:=vL n k
  have hL:(l0++eE n k).length=l0.length+k:=by rw[List.length_append,pL]
  have hb:=DB n k hn64 (by omega)
  have hap:l0++eE n (k+1)=(l0++eE n k)++[n.testBit k]:=by rw[hs,List.append_assoc]
  rw[hap]
  generalize n.testBit k=c at hb
  generalize l0++eE n k=l at hL⊢
  have hsn:=wz l c
  have hget:=xF l
  have hblt:=nS l
  have hb8:=zq l (l.length/8)
  generalize dZ l (l.length/8)=x at hsn hget hblt hb8
  have hRl:=zo l
  have hBl:=gp l
  have hBl2:=gp (l++[c])
  rw[List.length_append,List.length_singleton]at hBl2
  have hm8:l.length%8<8:=Nat.mod_lt _ (by decide)
  have e1:=GX c _ hm8
  have e2:=HS x c _ hm8 hblt
  have hRget:(dx (dU l))[l.length/8]?=some [.v (.int .u8 (x:Int))]:=by simp[dx,hget]
  have hRset:(dx (dU l)).set (l.length/8) [.v (.int .u8 ((x+c.toNat* 2^(l.length%8):Nat):Int))]=dx (cP (l++[c])):=by rw[Bt,hsn]
  have hRB:(dU l).length=(cP (l++[c])).length:=by omega
  have hdlt:l.length/8<(dU l).length:=by omega
  have hfin:G++[.box 237 2 0 1 [.sl (G.length+1) (dU l).length 0 (dU l).length,iA ((l.length:Int)+1)],.arr 5 1 (dU l).length (dx (cP (l++[c])))]=wH G (l++[c]):=by
   unfold wH
   rw[hRB,List.length_append,List.length_singleton]
   rfl
  have hw3:IntKind.i64.wrap ((l.length:Int)+1)=(l.length:Int)+1:=wrap64_in _ (by omega) (by omega)
  have hwq:IntKind.i64.wrap ((l.length/8:Nat):Int)=((l.length/8:Nat):Int):=zE _ (by omega)
  have hwk:IntKind.u64.wrap ((k:Nat):Int)=((k:Nat):Int):=cM _ (by omega)
  have hwm:IntKind.u64.wrap ((l.length%8:Nat):Int)=((l.length%8:Nat):Int):=cM _ (by omega)
  generalize c.toNat* 2^(l.length%8)=y at*
  generalize x+y=z at*
  by_cases h8:l.length%8=0
  ·have hR0:dx (cP l)++[[.v (.int .u8 0)]]=dx (dU l):=by rw[n7 h8];exact kE _ 0
   have hR1:(cP l).length+1=(dU l).length:=by rw[n7 h8];simp
   simp -implicitDefEqProofs only[↓reduceIte,go_sem,ae,aw,Nat.reduceAdd,Nat.reduceLT,Nat.reduceLeDiff,Nat.reduceEqDiff,Int.reduceEq,reduceCtorEq,wH,t0,t24,t25,hk,BI,h8,bK,hR0,hR1]
   refine⟨by omega,by omega,?_⟩
   refine lf 25 K.mixed (by kernel_rfl) (by kernel_rfl) ?_
   simp -implicitDefEqProofs only[↓reduceIte,go_sem,ae,aw,Nat.reduceAdd,Nat.reduceLT,Nat.reduceLeDiff,Nat.reduceEqDiff,Int.reduceEq,reduceCtorEq,t0,t1,t25,F2,BI,hwq,hwk,hwm,hRget,hdlt,hb,e1,e2]
   refine cO.same ⟨?_,?_⟩
   ·simp -implicitDefEqProofs only[go_sem,hRset,hw3,hfin]
   ·simp -implicitDefEqProofs only[↓reduceIte,go_sem,Nat.reduceLT,Nat.reduceEqDiff,reduceCtorEq,t0,t1,t24,hw2]
  ·have h8':(((l.length%8:Nat):Int)=0)=False:=eq_false (by omega)
   rw[wo h8]at*
   simp -implicitDefEqProofs only[↓reduceIte,go_sem,ae,Nat.reduceAdd,Nat.reduceLT,Nat.reduceEqDiff,Int.reduceEq,reduceCtorEq,wH,t0,t24,t25,hk,BI,h8']
   refine lf 25 K.mixed (by kernel_rfl) (by kernel_rfl) ?_
   simp -implicitDefEqProofs only[↓reduceIte,go_sem,ae,aw,Nat.reduceAdd,Nat.reduceLT,Nat.reduceLeDiff,Nat.reduceEqDiff,Int.reduceEq,reduceCtorEq,t0,t1,t25,F2,BI,hwq,hwk,hwm,hRget,hdlt,hb,e1,e2]
   refine cO.same ⟨?_,?_⟩
   ·simp -implicitDefEqProofs only[go_sem,hRset,hw3,hfin]
   ·simp -implicitDefEqProofs only[↓reduceIte,go_sem,Nat.reduceLT,Nat.reduceEqDiff,reduceCtorEq,t0,t1,t24,hw2]
 ·rintro s H' ⟨rfl,t0,t1,t24,t25⟩
  simp -implicitDefEqProofs only[↓reduceIte,go_sem,Nat.reduceLT,t24,t25]
  rw[hE]
  exact⟨_,an.refl _ _,by simp -implicitDefEqProofs only[↓reduceIte,go_sem,Nat.reduceLT]⟩
theorem sW(G:aa)(l:List Bool)(hl:l.length≤100000000):ah Tryz.prog 169 [.ptr G.length 0 0 0] (wH G l) (.ok (.d (.list false (dx (cP l))))) (wH G l):=by
 have:=gp l
 generalize hE:wH G l=E
 have hE2:=hE
 rw[wH]at hE2
 refine ah.aj (hint:=(fun _=>false)) Tryz.func169 (by kernel_rfl) rfl [2] (by kernel_rfl) (by decide) (by simp[Tryz.ntmps169]) ?_
 rw[Tryz.ntmps169]
 rw[←hE]
 simp -implicitDefEqProofs only[↓reduceIte,go_sem,ae,Nat.reduceAdd,Nat.reduceLT,Nat.reduceLeDiff,Nat.reduceEqDiff,reduceCtorEq,wH,show(dx (cP l)).take (cP l).length=dx (cP l)from cN _ _ (bK _),fM,bK]
 refine⟨by omega,by omega,ao.GQ (T:=[.arr 5 1 1 (dx (cP l))]) (by simp) ?_⟩
 simp -implicitDefEqProofs only[↓reduceIte,go_sem,Nat.reduceAdd,Nat.reduceLT,show(dx (cP l)).take (cP l).length=dx (cP l)from cN _ _ (bK _)]
def gw(l:List Nat)(w:Nat):List Bool:=l.flatMap fun n=>eE n w
def fb(l:List Nat)(w:Nat):List Nat:=cP (gw l w)
theorem vH(l:List Nat)(n w:Nat):gw (l++[n]) w=gw l w++eE n w:=by simp[gw]
theorem jA(l:List Nat)(w:Nat):(gw l w).length=l.length* w:=by
 induction l with
 |nil=>simp[gw]
 |cons x l ih=>
  have:gw (x::l) w=eE x w++gw l w:=rfl
  rw[this,List.length_append,ih,pL,List.length_cons,Nat.add_mul];omega
theorem po(l:List Nat)(w:Nat)(hw:w≤64)(hn:∀n∈l,n<2^w)(hl:l.length≤1000000)(nn:Bool)(H:aa):
  ah Tryz.prog 231 [.d (.list nn (us l)),iA w] H (.ok (.bq [.d (.list false (dx (fb l w))),iA 0])) H:=by
 have z0:wH H []=H++[.box 237 2 0 1 [.sl (H.length+1) 0 0 0,iA 0],.arr 5 1 0 []]:=rfl
 have h0:0<2^w:=Nat.two_pow_pos w
 have hbl:=jA l w
 have hbig:l.length* w≤1000000* 64:=Nat.mul_le_mul hl hw
 refine ah.aj (hint:=(fun t=>t==1000002||t==1000005||t==1000006)) Tryz.func231 (by kernel_rfl) rfl [4,5] (by kernel_rfl) (by decide) (by simp[Tryz.ntmps231]) ?_
 rw[Tryz.ntmps231]
 simp -implicitDefEqProofs only[↓reduceIte,go_sem,Nat.reduceAdd,Nat.reduceLT,Nat.reduceEqDiff,Nat.reduceBEq]
 refine⟨_,_,an.eg _ _ H.length 237 2 0 1 [.d (.v (.slice none 0 0)),iA 0] 0 _ 5 1 (by decide) (by simp) rfl rfl,?_⟩
 simp -implicitDefEqProofs only[↓reduceIte,go_sem,Nat.reduceLT,Nat.reduceEqDiff]
 rw[←z0]
 refine ab.ok (px 0 w hw h0 H [] (by simp)) ?_
 simp -implicitDefEqProofs only[↓reduceIte,go_sem,Nat.reduceAdd,Nat.reduceLT,Nat.reduceEqDiff,Nat.reduceBEq]
 refine⟨_,_,(by unfold wH;exact an.drop H _ _),?_⟩
 simp -implicitDefEqProofs only[↓reduceIte,go_sem,Nat.reduceLT]
 refine⟨_,_,an.eg _ _ H.length 237 2 0 1 [.d (.v (.slice none 0 0)),iA 0] 0 _ 5 1 (by decide) (by simp) rfl rfl,?_⟩
 simp -implicitDefEqProofs only[↓reduceIte,go_sem,reduceCtorEq,lg]
 rw[←z0]
 refine bf (fun k s H'=>H'=wH H (gw (l.take k) w)∧s 1=iA w∧s 6= .ptr H.length 0 0 0∧s 21= .d (.list nn (us l))∧s 22=iA l.length∧s 23=iA k) l.length (by omega) (an.refl _ _) ?_ ?_ ?_
 ·refine⟨by simp[gw],?_⟩
  simp -implicitDefEqProofs only[↓reduceIte,go_sem,Nat.reduceLT,Nat.reduceEqDiff,reduceCtorEq]
 ·rintro k s H' hk hw2 ⟨rfl,t1,t6,t21,t22,t23⟩
  have hx:=zP l k hk
  have e1:=List.take_succ_eq_append_getElem hk
  have hc:=hn _ (List.getElem_mem hk)
  have e2:gw (l.take (k+1)) w=gw (l.take k) w++eE l[k] w:=by rw[e1,vH]
  have e3:=jA (l.take k) w
  have e4:(l.take k).length* w≤1000000* 64:=Nat.mul_le_mul (by simp;omega) hw
  generalize l[k]=x at hx hc e2
  simp -implicitDefEqProofs only[↓reduceIte,go_sem,Nat.reduceAdd,Nat.reduceLT,Nat.reduceEqDiff,Nat.reduceBEq,t1,t6,t21,t22,t23,hk,hx]
  refine ab.ok (px x w hw hc H _ (by omega)) ?_
  simp -implicitDefEqProofs only[↓reduceIte,go_sem,Nat.reduceAdd,Nat.reduceLT,Nat.reduceEqDiff,Nat.reduceBEq,t23]
  refine cO.same ⟨by rw[e2],?_⟩
  simp -implicitDefEqProofs only[↓reduceIte,go_sem,Nat.reduceLT,Nat.reduceEqDiff,t1,t6,t21,t22,hw2]
 ·rintro s H' ⟨rfl,t1,t6,t21,t22,t23⟩
  rw[List.take_length]
  simp -implicitDefEqProofs only[↓reduceIte,go_sem,Nat.reduceAdd,Nat.reduceLT,Nat.reduceEqDiff,Nat.reduceBEq,t6,t22,t23]
  refine ab.ok (sW H (gw l w) (by omega)) ?_
  simp -implicitDefEqProofs only[↓reduceIte,go_sem,Nat.reduceLT]
  unfold wH
  refine ao.ret ?_
  simp -implicitDefEqProofs only[↓reduceIte,go_sem,Nat.reduceLT,Nat.reduceEqDiff,fb]
theorem mU{n:Int}(h1:-9223372036854775808≤n)(h2:n≤9223372036854775807):jt n<18446744073709551616:=by unfold jt;split<;>omega
theorem ic(n:Int):-9223372036854775808≤IntKind.i64.wrap n∧IntKind.i64.wrap n≤9223372036854775807:=by
 have h1:=Int.emod_nonneg n (show(18446744073709551616:Int)≠0 by decide)
 have h2:=Int.emod_lt_of_pos n (show(0:Int)<18446744073709551616 by decide)
 simp only[IntKind.wrap,IntKind.signed,IntKind.bits]
 simp only[show((2:Int)^64)=18446744073709551616 from rfl,show((2:Int)^(64-1))=9223372036854775808 from rfl]
 generalize n%18446744073709551616=m at*
 by_cases h:m≥9223372036854775808<;>simp[h]<;>omega
theorem yz{l:List Nat}:∀{a:Nat},a≤l.foldl (·|||·) a∧∀n∈l,n≤l.foldl (·|||·) a:=by
 induction l with
 |nil=>intro a;exact⟨Nat.le_refl _,fun n hn=>by simp at hn⟩
 |cons x l ih=>
  intro a
  simp only[List.foldl_cons]
  have h:=ih (a:=a|||x)
  refine⟨Nat.le_trans Nat.left_le_or h.1,fun n hn=>?_⟩
  rcases List.mem_cons.1 hn with rfl|hn
  ·exact Nat.le_trans Nat.right_le_or h.1
  ·exact h.2 n hn
theorem td{l:List Nat}:∀n∈l,n<2^fD l:=fun n hn=>Nat.lt_of_le_of_lt (yz.2 n hn) ((en _ _).1 (Nat.le_refl _))
theorem yE{l:List Nat}(h:∀n∈l,n<18446744073709551616):fD l≤64:=yu (lZ h (by decide))
theorem eu:∀(k n:Nat),n<128^k→(cA n).length≤k+1:=by
 intro k
 induction k with
 |zero=>intro n hn;rw[jY (by omega)];simp
 |succ k ih=>
  intro n hn
  by_cases h:n<128
  ·rw[jY h];simp
  ·rw[tM h,List.length_cons]
   have:=ih (n/128) (by rw[Nat.div_lt_iff_lt_mul (by decide)];exact hn)
   omega
theorem gM{l:List ak}{k:Int}(h:bg l k=0):l.length≤4096:=by
 unfold bg at h
 by_cases h1:4096<l.length
 ·rw[if_pos h1]at h
  split at h<;>omega
 ·omega
def BA(l:List Nat):Prop:=∀n∈l,n<256
theorem ofNat_inj{a b:Nat}(ha:a<256)(hb:b<256)(h:UInt8.ofNat a=UInt8.ofNat b):a=b:=by
 have:=congrArg UInt8.toNat h
 simpa[Nat.mod_eq_of_lt ha,Nat.mod_eq_of_lt hb]using this
theorem BA.app{l m:List Nat}(hl:BA l)(hm:BA m):BA (l++m):=fun n hn=>by
 rcases List.mem_append.1 hn with h|h
 ·exact hl n h
 ·exact hm n h
def je(s:ByteArray):List Nat:=s.data.toList.map UInt8.toNat
theorem m5(s:ByteArray):(je s).length=s.size:=by simp[je]
theorem vO(s:ByteArray):bp s=dx (je s):=by
 unfold bp dx je
 rw[List.map_map]
 rfl
def r6(s:ByteArray):List Nat:=cA s.size++je s
theorem yk(s:ByteArray)(hs:s.size≤100000000000000)(H:aa):ah Tryz.prog 167 [sA s] H (.ok (.d (.list false (dx (r6 s))))) H:=by
 refine ah.aj (hint:=(fun _=>false)) Tryz.func167 (by kernel_rfl) rfl [2] (by kernel_rfl) (by decide) (by simp[Tryz.ntmps167]) ?_
 rw[Tryz.ntmps167]
 simp -implicitDefEqProofs only[↓reduceIte,go_sem,Nat.reduceLT,reduceCtorEq,cM s.size (by omega)]
 refine ab.ok (fO s.size (by omega) _) ?_
 have hl:=eu 10 s.size (by omega)
 have hsl:=m5 s
 simp -implicitDefEqProofs only[↓reduceIte,go_sem,Nat.reduceLT,Nat.reduceEqDiff,reduceCtorEq,vO,bK,fM,gQ]
 refine⟨by omega,by omega,ao.ret ?_⟩
 have ht:(dx (cA s.size++je s)).take ((cA s.size).length+(je s).length)=dx (cA s.size++je s):=List.take_of_length_le (by rw[bK,List.length_append];omega)
 simp -implicitDefEqProofs only[↓reduceIte,go_sem,Nat.reduceLT,ht,r6]
def xc(n:Nat):List Nat:=(List.range 8).map fun i=>n/256^(7-i)%256
theorem kF(n:Nat):(xc n).length=8:=by simp[xc]
theorem A3(n k:Nat)(h:k<8):(xc n).take (k+1)=(xc n).take k++[n/256^(7-k)%256]:=by
 rw[List.take_succ_eq_append_getElem (by rw[kF];exact h)]
 simp[xc]
theorem uk{v:ak}(hm:eL v=true)(h3:v.kind=3):v.s.size≤1024:=by
 unfold eL at hm
 rw[if_neg (by omega),if_neg (by omega),if_pos h3]at hm
 simp at hm
 exact hm.2
def gB(v:ak):List Nat:=if v.kind=1 then cA (jt v.i)else if v.kind=2 then xc (fX (uD v.i))else if v.kind=3 then r6 v.s else[]
theorem fW(v:ak)(hi:-9223372036854775808≤v.i∧v.i≤9223372036854775807)(hm:eL v=true)(H:aa):
  ah Tryz.prog 137 [v.av] H (.ok (.bq [.d (.list false (dx (gB v))),iA 0])) H:=by
 by_cases h1:v.kind=1
 ·have e:gB v=cA (jt v.i):=by unfold gB;rw[if_pos h1]
  rw[e]
  refine ah.aj (hint:=(fun _=>false)) Tryz.func137 (by kernel_rfl) rfl [2,3] (by kernel_rfl) (by decide) (by simp[Tryz.ntmps137]) ?_
  rw[Tryz.ntmps137]
  simp -implicitDefEqProofs only[↓reduceIte,go_sem,ae,Nat.reduceAdd,Nat.reduceLT,Nat.reduceEqDiff]
  refine ab.ok (e9 v _) ?_
  simp -implicitDefEqProofs only[↓reduceIte,go_sem,ae,Nat.reduceAdd,Nat.reduceLT,Nat.reduceLeDiff,Nat.reduceEqDiff,hm,eq_true h1]
  refine ab.ok (nR v.i hi.1 hi.2 _) ?_
  simp -implicitDefEqProofs only[↓reduceIte,go_sem,Nat.reduceLT]
  refine ab.ok (nI (jt v.i) (mU hi.1 hi.2) _) ?_
  simp -implicitDefEqProofs only[↓reduceIte,go_sem,Nat.reduceLT]
  refine ao.ret ?_
  simp -implicitDefEqProofs only[↓reduceIte,go_sem,Nat.reduceLT,Nat.reduceEqDiff]
 by_cases h2:v.kind=2
 ·have e:gB v=xc (fX (uD v.i)):=by unfold gB;rw[if_neg h1,if_pos h2]
  have hk:=B8 (uD v.i) (j9 _)
  rw[e]
  refine ah.aj (hint:=(fun _=>false)) Tryz.func137 (by kernel_rfl) rfl [2,3] (by kernel_rfl) (by decide) (by simp[Tryz.ntmps137]) ?_
  rw[Tryz.ntmps137]
  simp -implicitDefEqProofs only[↓reduceIte,go_sem,ae,Nat.reduceAdd,Nat.reduceLT,Nat.reduceEqDiff]
  refine ab.ok (e9 v _) ?_
  simp -implicitDefEqProofs only[↓reduceIte,go_sem,ae,Nat.reduceAdd,Nat.reduceLT,Nat.reduceLeDiff,Nat.reduceEqDiff,hm,h1,eq_true h2,kR]
  refine ab.ok (lC _ (j9 _) _) ?_
  generalize fX (uD v.i)=n at*
  simp -implicitDefEqProofs only[↓reduceIte,go_sem,Nat.reduceLT]
  refine bf (fun k s H'=>H'=H++[.box 100 3 0 1 [iA v.kind,iA v.i,sA v.s],.arr 5 1 k (dx ((xc n).take k))]∧s 4=du n∧s 5= .sl (H.length+1) k 0 k∧s 24=iA k) 8 (by omega) (an.fy _ _ 5 5 1 (by decide) (by simp -implicitDefEqProofs only[↓reduceIte,go_sem,Nat.reduceLT,Nat.reduceEqDiff]) _) ?_ ?_ ?_
  ·refine⟨?_,?_⟩
   ·simp -implicitDefEqProofs only[go_sem,List.take_zero,xe]
   ·simp -implicitDefEqProofs only[↓reduceIte,go_sem,Nat.reduceLT,Nat.reduceEqDiff]
  ·rintro k s H' hk2 hw ⟨rfl,t4,t5,t24⟩
   have hk8:((k:Int)<8)=True:=eq_true (by omega)
   have e1:=A3 n k hk2
   have el:((xc n).take k).length=k:=by rw[List.length_take,kF];omega
   have w1:IntKind.i64.wrap (7-(k:Int))=((7-k:Nat):Int):=by rw[wrap64_in _ (by omega) (by omega)];omega
   have w2:IntKind.i64.wrap (8* ((7-k:Nat):Int))=((8* (7-k):Nat):Int):=by rw[wrap64_in _ (by omega) (by omega)];omega
   have w3:IntKind.u64.wrap ((8* (7-k):Nat):Int)=((8* (7-k):Nat):Int):=cM _ (by omega)
   have w4:j5 .u64 (n:Int) ((8* (7-k):Nat):Int)=((n/256^(7-k):Nat):Int):=by
    rw[sG n (8* (7-k)) (by omega),Nat.pow_mul]
   have w5:IntKind.u64.wrap ((n/256^(7-k):Nat):Int)=((n/256^(7-k):Nat):Int):=cM _ (Nat.lt_of_le_of_lt (Nat.div_le_self _ _) hk)
   rw[e1]
   generalize n/256^(7-k)=m at*
   generalize hq:((8* (7-k):Nat):Int)=q at*
   generalize ((7-k:Nat):Int)=q2 at*
   generalize (xc n).take k=B at*
   simp -implicitDefEqProofs only[↓reduceIte,go_sem,Nat.reduceAdd,Nat.reduceLT,Nat.reduceLeDiff,Nat.reduceEqDiff,t4,t5,t24,hk8,w1,w2,w3,w4,lG,bK,el,kE]
   refine⟨by omega,by omega,by omega,cO.same ⟨?_,?_⟩⟩
   ·simp -implicitDefEqProofs only[go_sem]
   ·simp -implicitDefEqProofs only[↓reduceIte,go_sem,Nat.reduceLT,Nat.reduceEqDiff,t4,hw]
  ·rintro s H' ⟨rfl,t4,t5,t24⟩
   rw[show(xc n).take 8=xc n from List.take_of_length_le (by rw[kF];exact Nat.le_refl _)]
   simp -implicitDefEqProofs only[↓reduceIte,go_sem,Nat.reduceLT,Nat.reduceEqDiff,Int.reduceLT,t5,t24]
   refine ao.ret ?_
   simp -implicitDefEqProofs only[↓reduceIte,go_sem,Nat.reduceLT,Nat.reduceEqDiff,show(dx (xc n)).take 8=dx (xc n)from List.take_of_length_le (by rw[bK,kF];exact Nat.le_refl _)]
 by_cases h3:v.kind=3
 ·have e:gB v=r6 v.s:=by unfold gB;rw[if_neg h1,if_neg h2,if_pos h3]
  have hs:=uk hm h3
  rw[e]
  refine ah.aj (hint:=(fun _=>false)) Tryz.func137 (by kernel_rfl) rfl [2,3] (by kernel_rfl) (by decide) (by simp[Tryz.ntmps137]) ?_
  rw[Tryz.ntmps137]
  simp -implicitDefEqProofs only[↓reduceIte,go_sem,ae,Nat.reduceAdd,Nat.reduceLT,Nat.reduceEqDiff]
  refine ab.ok (e9 v _) ?_
  simp -implicitDefEqProofs only[↓reduceIte,go_sem,ae,Nat.reduceAdd,Nat.reduceLT,Nat.reduceLeDiff,Nat.reduceEqDiff,hm,h1,h2,eq_true h3]
  refine ab.ok (yk v.s (by omega) _) ?_
  simp -implicitDefEqProofs only[↓reduceIte,go_sem,Nat.reduceLT]
  refine ao.ret ?_
  simp -implicitDefEqProofs only[↓reduceIte,go_sem,Nat.reduceLT,Nat.reduceEqDiff]
 ·have e:gB v=[]:=by unfold gB;rw[if_neg h1,if_neg h2,if_neg h3]
  rw[e]
  refine ah.jW (cs:=[.d (.v (.slice none 0 0)),iA 0]) ?_ (.cons .nil (.cons (.refl _) .nil))
  refine ah.aj (hint:=(fun _=>false)) Tryz.func137 (by kernel_rfl) rfl [2,3] (by kernel_rfl) (by decide) (by simp[Tryz.ntmps137]) ?_
  rw[Tryz.ntmps137]
  simp -implicitDefEqProofs only[↓reduceIte,go_sem,ae,Nat.reduceAdd,Nat.reduceLT,Nat.reduceEqDiff]
  refine ab.ok (e9 v _) ?_
  simp -implicitDefEqProofs only[↓reduceIte,go_sem,ae,Nat.reduceAdd,Nat.reduceLT,Nat.reduceLeDiff,Nat.reduceEqDiff,hm,h1,h2,h3]
  refine ao.ret ?_
  simp -implicitDefEqProofs only[↓reduceIte,go_sem,Nat.reduceLT,Nat.reduceEqDiff]
theorem qs{α:Type}{eq:α→α→Bool}:∀{t:List α} {p x:α},x∈St.ow eq p t→x∈t
 |[],_,_,h=>by simp[St.ow]at h
 |y::t,p,x,h=>by
  unfold St.ow at h
  split at h
  ·exact List.mem_cons_of_mem _ (qs h)
  ·rcases List.mem_cons.1 h with rfl|h
   ·exact List.mem_cons_self ..
   ·exact List.mem_cons_of_mem _ (qs h)
theorem qv{α:Type}{eq:α→α→Bool}{l:List α}{x:α}(h:x∈St.ay eq l):x∈l:=by
 cases l with
 |nil=>simp[St.ay]at h
 |cons y t=>
  rcases List.mem_cons.1 h with rfl|h
  ·exact List.mem_cons_self ..
  ·exact List.mem_cons_of_mem _ (qs h)
theorem j4{α:Type}{c:α→α→Int}(ht:kz c):∀{t:List α} {p:α},St.au (rP c) (p::t)→(p::St.ow (fun a b=>decide (c a b=0)) p t).Pairwise (fun x y=>rP c x y=true)∧∀x∈t,∃y∈p::St.ow (fun a b=>decide (c a b=0)) p t,c x y=0
 |[],p,_=>by simp[St.ow]
 |y::t,p,h=>by
  have h1:=List.pairwise_cons.1 h
  have h2:=List.pairwise_cons.1 h1.2
  have hp:rP c y p=false:=h1.1 y (by simp)
  unfold St.ow
  by_cases he:c y p=0
  ·rw[if_pos (by simpa using he)]
   have hs:St.au (rP c) (p::t):=List.pairwise_cons.2 ⟨fun z hz=>h1.1 z (by simp[hz]),h2.2⟩
   have key:∀(t:List α) (y p:α),c y p=0→St.ow (fun a b=>decide (c a b=0)) y t=St.ow (fun a b=>decide (c a b=0)) p t:=by
    intro t
    cases t with
    |nil=>intros;rfl
    |cons z t=>
     intro y p h
     unfold St.ow
     have:decide (c z y=0)=decide (c z p=0):=by
      rw[Bool.eq_iff_iff,decide_eq_true_eq,decide_eq_true_eq]
      exact⟨fun g=>ht.fh g h,fun g=>ht.fh g ((ht.zero y p).1 h)⟩
     rw[this]
   rw[key t y p he]
   obtain⟨i1,i2⟩:=j4 ht hs
   refine⟨i1,fun x hx=>?_⟩
   rcases List.mem_cons.1 hx with rfl|hx
   ·exact⟨p,by simp,he⟩
   ·exact i2 x hx
  ·rw[if_neg (by simpa using he)]
   obtain⟨i1,i2⟩:=j4 ht h1.2
   have hlt:rP c p y=true:=by
    simp only[rP,decide_eq_true_eq,decide_eq_false_iff_not]at hp⊢
    have:=ht.fg p y
    omega
   refine⟨List.pairwise_cons.2 ⟨fun z hz=>?_,i1⟩,fun x hx=>?_⟩
   ·rcases List.mem_cons.1 hz with rfl|hz
    ·exact hlt
    ·exact ht.ord.trans hlt ((List.pairwise_cons.1 i1).1 z hz)
   ·rcases List.mem_cons.1 hx with rfl|hx
    ·exact⟨x,by simp,ht.self x⟩
    ·obtain⟨z,hz,hc⟩:=i2 x hx
     exact⟨z,List.mem_cons_of_mem _ hz,hc⟩
theorem nq{α:Type}{c:α→α→Int}(ht:kz c){l:List α}(h:St.au (rP c) l):(St.ay (fun a b=>decide (c a b=0)) l).Pairwise (fun x y=>rP c x y=true)∧∀x∈l,∃y∈St.ay (fun a b=>decide (c a b=0)) l,c x y=0:=by
 cases l with
 |nil=>simp[St.ay]
 |cons p t=>
  obtain⟨h1,h2⟩:=j4 ht h
  refine⟨h1,fun x hx=>?_⟩
  rcases List.mem_cons.1 hx with rfl|hx
  ·exact⟨x,by simp[St.ay],ht.self x⟩
  ·exact h2 x hx
def bO{α:Type}(c:α→α→Int)(l:List α):List α:=St.ay (fun a b=>decide (c a b=0)) (St.aG (rP c) l)
theorem xN{α:Type}{c:α→α→Int}(ht:kz c){l:List α}{x:α}(h:x∈bO c l):x∈l:=(St.eZ ht.ord).1 (qv h)
theorem xG{α:Type}{c:α→α→Int}(ht:kz c){l:List α}{x:α}(h:x∈l):∃y∈bO c l,c x y=0:=(nq ht (St.cc ht.ord l)).2 x ((St.eZ ht.ord).2 h)
end Go.Proofs.YtggohfhfocgilaaGreat
