/- Contracts of functions and lemmas for planBest_holds, part 7. -/
import Derived.Recover
import Derived.Test.YtfklokhopcmloaaGreatM06
set_option maxHeartbeats 8000000
set_option maxRecDepth 100000
set_option linter.all false
namespace Go.Proofs.YtfklokhopcmloaaGreat
open Go.Proofs.YtfklokhopcmloaaGreatAw Go.RowKit
def cf(words:List ak)(v:ak):Int:=jV (fun w=>decide (aM w v=0)) words
theorem wZ(words:List ak)(v:ak):-1≤cf words v∧cf words v<words.length∨words=[]∧cf words v=-1:=by
 unfold cf jV
 split
 ·rename_i h
  obtain⟨x,hx,hp⟩:=List.any_eq_true.1 h
  have:words.findIdx (fun w=>decide (aM w v=0))<words.length:=List.findIdx_lt_length_of_exists ⟨x,hx,hp⟩
  left;omega
 ·cases words with
  |nil=>exact .inr ⟨rfl,rfl⟩
  |cons a l=>left;simp;omega
def ew(words l:List ak):Bool:=l.all fun v=>decide (0≤cf words v)
def wD(words l:List ak):List Nat:=if ew words l then l.map fun v=>(cf words v).toNat else[]
def vR(words l:List ak):Int:=if ew words l then 0 else 6
def ry(words l:List ak):AV:= .aZ [.d (.list false (us (wD words l))),iA (vR words l)]
theorem z8{words l:List ak}{k:Nat}(hk:k<l.length)(h:cf words l[k]<0):ew words l=false:=by
 rw[Bool.eq_false_iff]
 intro g
 unfold ew at g
 rw[List.all_eq_true]at g
 have:=g _ (List.getElem_mem hk)
 simp at this
 omega
theorem wy{words l:List ak}(h:∀i (hi:i<l.length),0≤cf words l[i]):ew words l=true:=by
 unfold ew
 rw[List.all_eq_true]
 intro v hv
 obtain⟨i,hi,rfl⟩:=List.mem_iff_getElem.1 hv
 simpa using h i hi
def Cl(v:ak):az:= .box 69 3 0 1 [iA v.kind,iA v.i,sA v.s]
theorem ub(w v:ak)(id:Nat)(H:aa)(hb:H[id]?=some (Cl v)):ag Tryz.prog 173 [w.av,.ptr id 0 0 0] H (.ok (bA (decide (aM w v=0)))) H:=by
 have hlt:id<H.length:=(List.getElem?_eq_some_iff.1 hb).1
 unfold Cl at hb
 refine ag.aj (hint:=(fun _=>false)) Tryz.func173 (by kernel_rfl) rfl [3] (by kernel_rfl) (by decide) (by simp[Tryz.ntmps173]) ?_
 rw[Tryz.ntmps173]
 simp -implicitDefEqProofs only[↓reduceIte,go_sem,ab,Nat.reduceAdd,Nat.reduceLT,Nat.reduceEqDiff,hb,List.getElem?_append_left hlt]
 refine ae.ok (cj w v _) ?_
 simp -implicitDefEqProofs only[↓reduceIte,go_sem,Nat.reduceLT]
 refine au.ret ?_
 simp -implicitDefEqProofs only[↓reduceIte,go_sem,Nat.reduceLT]
theorem sE(words l:List ak)(n1 n2:Bool)(H:aa)(hw:words.length≤1000000000000)(hl:l.length≤1000000000000):ag Tryz.prog 148 [.d (.list n1 (words.map ak.enc)),.d (.list n2 (l.map ak.enc))] H
  (.ok (if ew words l then .aZ [.d (.list false (us (l.map fun v=>(cf words v).toNat))),iA 0]else .aZ [.d (.v (.slice none 0 0)),iA 6])) H:=by
 refine ag.aj (hint:=(fun _=>false)) Tryz.func148 (by kernel_rfl) rfl [4,5] (by kernel_rfl) (by decide) (by simp[Tryz.ntmps148]) ?_
 rw[Tryz.ntmps148]
 simp -implicitDefEqProofs only[↓reduceIte,go_sem,Nat.reduceLT,Nat.reduceEqDiff]
 refine aO (fun k s H'=>H'=H++[.arr 54 1 k (us ((l.take k).map fun v=>(cf words v).toNat))]∧(∀i (hi:i<k) (hl:i<l.length),0≤cf words l[i])∧s 0= .d (.list n1 (words.map ak.enc))∧s 6= .sl H.length k 0 k∧s 10= .d (.list n2 (l.map ak.enc))∧s 11=iA l.length∧s 12=iA k) l.length (by omega) (al.gB _ _ 6 54 1 (by decide) (by simp -implicitDefEqProofs only[↓reduceIte,go_sem,Nat.reduceLT,Nat.reduceEqDiff]) _) ?_ ?_ ?_
 ·refine⟨rfl,fun i hi=>by omega,?_⟩
  simp -implicitDefEqProofs only[↓reduceIte,go_sem,Nat.reduceLT,Nat.reduceEqDiff,reduceCtorEq]
 ·rintro k s H' hk hw' ⟨rfl,hp,t0,t6,t10,t11,t12⟩
  have hx:=List.getElem?_eq_getElem hk
  have e1:(l.take (k+1)).map (fun v=>(cf words v).toNat)=(l.take k).map (fun v=>(cf words v).toNat)++[(cf words l[k]).toNat]:=by rw[List.take_succ_eq_append_getElem hk,List.map_append];rfl
  have hbad:=z8 (words:=words) hk
  have hrng:=wZ words l[k]
  have hpp:0≤cf words l[k]→∀i (hi:i<k+1) (hl:i<l.length),0≤cf words l[i]:=fun h0 i hi hl'=>by
   rcases Nat.lt_or_ge i k with h|h
   ·exact hp i h hl'
   ·obtain rfl:i=k:=by omega
    exact h0
  have hlen:((l.take k).map fun v=>(cf words v).toNat).length=k:=by simp;omega
  generalize l[k]=x at hx e1 hbad hrng hpp
  generalize (l.take k).map (fun v=>(cf words v).toNat)=L at e1 hlen⊢
  simp -implicitDefEqProofs only[↓reduceIte,go_sem,an,Nat.reduceAdd,Nat.reduceLT,Nat.reduceEqDiff,reduceCtorEq,t10,t11,t12,hk,hx,ak.enc]
  simp -implicitDefEqProofs only[go_sem,t0]
  refine ae.ok (mF words (fun w=>decide (aM w x=0)) 173 [.ptr (H.length+1) 0 0 0] n1 _ (by omega) fun w _=>ub w x _ _ (by simp[Cl])) ?_
  have hpl:jV (fun w=>decide (aM w x=0)) words=cf words x:=rfl
  rw[hpl]
  generalize hq:cf words x=q at*
  by_cases hq0:q<0
  ·simp -implicitDefEqProofs only[↓reduceIte,go_sem,Nat.reduceLT,hq0]
   refine au.ret ?_
   rw[hbad hq0]
   simp -implicitDefEqProofs only[↓reduceIte,go_sem,Nat.reduceLT,Nat.reduceEqDiff,Bool.false_eq_true]
  ·obtain⟨n,rfl⟩:∃n:Nat,q=(n:Int):=⟨q.toNat,by omega⟩
   have hnw:n<1000000000000:=by omega
   have hu:IntKind.u64.wrap (n:Int)=(n:Int):=cP _ (by omega) (by omega)
   simp -implicitDefEqProofs only[↓reduceIte,go_sem,Nat.reduceAdd,Nat.reduceLT,Nat.reduceLeDiff,Nat.reduceEqDiff,t6,t12,hq0,hu,l7,hlen,xJ]
   refine⟨by omega,by omega,?_⟩
   refine c7.cut [.arr 54 1 (k+1) (us (L++[n]))] [Cl x] 1 rfl rfl (by simp -implicitDefEqProofs only[go_sem]) ?_
   refine⟨by rw[e1];simp,hpp (by omega),?_⟩
   simp -implicitDefEqProofs only[↓reduceIte,go_sem,Nat.reduceLT,Nat.reduceEqDiff,reduceCtorEq,t0,t10,t11,hw',Nat.lt_succ_self]
 ·rintro s H' ⟨rfl,hp,t0,t6,t10,t11,t12⟩
  have hg:=wy (words:=words) fun i hi=>hp i hi hi
  rw[List.take_length,hg]
  simp -implicitDefEqProofs only[↓reduceIte,go_sem,Nat.reduceLT,Nat.reduceEqDiff,t6,t11,t12]
  refine au.ret ?_
  simp -implicitDefEqProofs only[↓reduceIte,go_sem,Nat.reduceLT,Nat.reduceEqDiff,cU,l7]
theorem wg(words l:List ak)(n1 n2:Bool)(H:aa)(hw:words.length≤1000000000000)(hl:l.length≤1000000000000):ag Tryz.prog 148 [.d (.list n1 (words.map ak.enc)),.d (.list n2 (l.map ak.enc))] H (.ok (ry words l)) H:=by
 have h:=sE words l n1 n2 H hw hl
 unfold ry wD vR
 cases hc:ew words l with
 |true=>rw[hc]at h;simpa using h
 |false=>
  rw[hc]at h
  simp only[Bool.false_eq_true,if_false]at h⊢
  exact h.jX (.cons .nil (.cons (.refl _) .nil))
end Go.Proofs.YtfklokhopcmloaaGreat
namespace Go.Proofs.YtfklokhopcmloaaGreat
open Go.Proofs.YtfklokhopcmloaaGreatAw Go.RowKit
namespace SV
def aH(H:aa)(id ver:Nat)(L:List ak):aa:=H.set id (.arr 69 3 ver (L.map ak.enc))
theorem ca{H:aa}{id:Nat}(h:id<H.length)(ver:Nat)(L:List ak):(aH H id ver L)[id]?=some (.arr 69 3 ver (L.map ak.enc)):=by simp[aH,h]
theorem dR(H:aa)(id ver:Nat)(L:List ak)(v:Nat)(es:List (List D)):(aH H id ver L).set id (.arr 69 3 v es)=H.set id (.arr 69 3 v es):=by simp[aH]
theorem dz(H:aa)(id ver:Nat)(L:List ak):H.set id (.arr 69 3 ver (L.map ak.enc))=aH H id ver L:=rfl
theorem aC{L:List ak}{i:Nat}{x:ak}(h:L[i]?=some x):(L.map ak.enc)[i]?=some (ak.enc x):=by simp[h]
theorem b7(L:List ak)(i:Nat)(x:ak):(L.map ak.enc).set i (ak.enc x)=(L.set i x).map ak.enc:=by simp[List.map_set]
theorem get_at{A B:List ak}{x:ak}{n:Nat}(h:A.length=n):(A++x::B)[n]?=some x:=by subst h;simp
theorem cd{A B:List ak}{x y:ak}{n:Nat}(h:A.length=n):(A++x::B).set n y=A++y::B:=by subst h;simp
def m3(P X M Y Q:List ak)(k:Nat):List ak:=P++Y.take k++(X.drop k++M++X.take k++(Y.drop k++Q))
theorem np(P X M Y Q:List ak):m3 P X M Y Q 0=P++X++M++Y++Q:=by simp[m3]
theorem qW(P X M Y Q:List ak)(n:Nat)(h1:X.length=n)(h2:Y.length=n):m3 P X M Y Q n=P++Y++M++X++Q:=by
 unfold m3
 rw[List.take_of_length_le (by omega),List.drop_of_length_le (by omega),List.take_of_length_le (by omega),List.drop_of_length_le (by omega)]
 simp
theorem nj(P X M Y Q:List ak)(k:Nat)(hk:k<X.length)(h:X.length=Y.length):∃x y,(m3 P X M Y Q k)[P.length+k]?=some x∧(m3 P X M Y Q k)[P.length+X.length+M.length+k]?=some y∧
  ((m3 P X M Y Q k).set (P.length+k) y).set (P.length+X.length+M.length+k) x=m3 P X M Y Q (k+1):=by
 have hk2:k<Y.length:=by omega
 have e1:X.drop k=X[k]::X.drop (k+1):=List.drop_eq_getElem_cons hk
 have e2:Y.drop k=Y[k]::Y.drop (k+1):=List.drop_eq_getElem_cons hk2
 have e3:X.take (k+1)=X.take k++[X[k]]:=List.take_succ_eq_append_getElem hk
 have e4:Y.take (k+1)=Y.take k++[Y[k]]:=List.take_succ_eq_append_getElem hk2
 have l1:(P++Y.take k).length=P.length+k:=by simp;omega
 have l2:(X.drop (k+1)).length=X.length-(k+1):=by simp
 have l3:(X.take k).length=k:=by simp;omega
 unfold m3
 rw[e1,e2,e3,e4]
 generalize X[k]=x
 generalize Y[k]=y
 generalize X.drop (k+1)=X1 at*
 generalize Y.drop (k+1)=Y1 at*
 generalize X.take k=X0 at*
 generalize Y.take k=Y0 at*
 have a1:P++Y0++(x::X1++M++X0++(y::Y1++Q))=(P++Y0)++x::(X1++M++X0++(y::Y1++Q)):=by simp
 have a2:P++Y0++(x::X1++M++X0++(y::Y1++Q))=(P++Y0++x::X1++M++X0)++y::(Y1++Q):=by simp
 have a3:(P++Y0)++y::(X1++M++X0++(y::Y1++Q))=(P++Y0++y::X1++M++X0)++y::(Y1++Q):=by simp
 refine⟨x,y,?_,?_,?_⟩
 ·rw[a1];exact get_at l1
 ·rw[a2]
  refine get_at ?_
  simp only[List.length_append,List.length_cons,l2,l3]at*
  omega
 ·rw[a1,cd l1,a3,cd (by simp only[List.length_append,List.length_cons,l2,l3]at*;omega)]
  simp
theorem fx(H:aa)(id ver:Nat)(hid:id<H.length)(g:FuncId)(caps:List AV)(P X M Y Q:List ak)(a b n m:Nat)(ha:P.length=a)(hn:X.length=n)(hy:Y.length=n)(hb:P.length+X.length+M.length=b)
  (hm:(P++X++M++Y++Q).length=m) (hbig:m≤1000000000000):
  ag Tryz.prog 192 [.sl id ver 0 m,iA a,iA b,iA n,.fn g caps] (aH H id ver (P++X++M++Y++Q)) (.ok (.aZ [])) (aH H id ver (P++Y++M++X++Q)):=by
 have hml:P.length+X.length+M.length+Y.length+Q.length=m:=by rw[←hm];simp;omega
 generalize hE:aH H id ver (P++Y++M++X++Q)=E
 generalize hE0:aH H id ver (P++X++M++Y++Q)=E0
 refine ag.aj (hint:=(fun _=>false)) Tryz.func192 (by kernel_rfl) rfl [] (by kernel_rfl) (by decide) (by simp[Tryz.ntmps192]) ?_
 rw[Tryz.ntmps192]
 simp -implicitDefEqProofs only[go_sem]
 refine bj (fun k s H'=>H'=aH H id ver (m3 P X M Y Q k)∧s 0= .sl id ver 0 m∧s 1=iA a∧s 2=iA b∧s 3=iA n∧s 10=iA k) n (by omega) (al.refl _ _) ?_ ?_ ?_
 ·refine⟨by rw[np,hE0],?_⟩
  simp -implicitDefEqProofs only[↓reduceIte,go_sem,Nat.reduceLT,Nat.reduceEqDiff,reduceCtorEq]
 ·rintro k s H' hk hw ⟨rfl,t0,t1,t2,t3,t10⟩
  obtain⟨x,y,hx,hy2,hst⟩:=nj P X M Y Q k (by omega) (by omega)
  rw[hb]at hy2 hst
  rw[ha]at hx hst
  obtain⟨i,hi⟩:∃i,i=a+k:=⟨_,rfl⟩
  obtain⟨j,hj⟩:∃j,j=b+k:=⟨_,rfl⟩
  have w1:IntKind.i64.wrap ((a:Int)+(k:Int))=(i:Int):=by rw[wrap64_in _ (by omega) (by omega)];omega
  have w2:IntKind.i64.wrap ((b:Int)+(k:Int))=(j:Int):=by rw[wrap64_in _ (by omega) (by omega)];omega
  rw[←hi]at hx hst
  rw[←hj]at hy2 hst
  have hil:i<m:=by omega
  have hjl:j<m:=by omega
  generalize m3 P X M Y Q k=L at*
  generalize m3 P X M Y Q (k+1)=L' at*
  have gx:=aC hx
  have gy:=aC hy2
  have gh:=ca hid ver L
  have s1:=b7 L i y
  have s2:=b7 (L.set i y) j x
  rw[hst]at s2
  have gy2:((L.set i y).map ak.enc)[j]?=some (ak.enc y):=by
   refine aC ?_
   rw[List.getElem?_set]
   by_cases hij:i=j
   ·omega
   ·rw[if_neg hij];exact hy2
  simp only[ak.enc]at gx gy gy2 s1 s2
  simp -implicitDefEqProofs only[↓reduceIte,go_sem,Nat.reduceLT,Nat.reduceEqDiff,t3,t10,hk]
  refine dJ [false,false,false,false,false,false,false,false,false,false,false,false,false,false,false,false,false,false,false,false,true,true,true,true] 20 K.mixed (by kernel_rfl) (by kernel_rfl) (by kernel_rfl) ?_
  simp -implicitDefEqProofs only[↓reduceIte,go_sem,ab,an,Nat.reduceAdd,Nat.reduceLT,Nat.reduceEqDiff,reduceCtorEq,t0,t1,t2,t10,w1,w2,hil,hjl,gh,gx,gy,dR,s1,s2,gy2,hid,List.getElem?_set_self,List.set_set]
  refine c7.same ⟨by rw[←dz],?_⟩
  simp -implicitDefEqProofs only[↓reduceIte,go_sem,Nat.reduceLT,Nat.reduceEqDiff,reduceCtorEq,t0,t1,t2,t3,hw]
 ·rintro s H' ⟨rfl,t0,t1,t2,t3,t10⟩
  simp -implicitDefEqProofs only[↓reduceIte,go_sem,Nat.reduceLT,Nat.reduceEqDiff,t3,t10]
  rw[qW _ _ _ _ _ n hn hy,hE]
  exact⟨_,al.refl _ _,rfl⟩
theorem cS(H:aa)(id ver:Nat)(hid:id<H.length)(g:FuncId)(caps:List AV)(P X M Y Q L L':List ak)(a b n m:Nat)(hL:L=P++X++M++Y++Q)(hL':L'=P++Y++M++X++Q)(ha:P.length=a)(hn:X.length=n)(hy:Y.length=n)(hb:P.length+X.length+M.length=b)
  (hm:L.length=m) (hbig:m≤1000000000000):
  ag Tryz.prog 192 [.sl id ver 0 m,iA a,iA b,iA n,.fn g caps] (aH H id ver L) (.ok (.aZ [])) (aH H id ver L'):=by
 subst hL hL'
 exact fx H id ver hid g caps P X M Y Q a b n m ha hn hy hb hm hbig
end SV
end Go.Proofs.YtfklokhopcmloaaGreat
namespace Go.Proofs.YtfklokhopcmloaaGreat
open Go.Proofs.YtfklokhopcmloaaGreatAw Go.RowKit
namespace SV
structure EU where
 L:List ak
 P:List ak
 U:List ak
 V:List ak
 Q:List ak
theorem jI(H:aa)(id ver:Nat)(hid:id<H.length)(g:FuncId)(caps:List AV)(P U V Q L T:List ak)(hL:L=P++U++V++Q)(hT:T=P++V++U++Q)(a m b n:Nat)(ha:P.length=a)(hm:P.length+U.length=m)(hb:P.length+U.length+V.length=b)(hU:0<U.length)(hV:0<V.length)
  (hn:L.length=n) (hbig:n≤1000000000000):
  ag Tryz.prog 191 [.sl id ver 0 n,iA a,iA m,iA b,.fn g caps] (aH H id ver L) (.ok (.aZ [])) (aH H id ver T):=by
 have hnl:P.length+U.length+V.length+Q.length=n:=by rw[←hn,hL];simp;omega
 generalize hE0:aH H id ver L=E0
 have w1:IntKind.i64.wrap ((m:Int)-(a:Int))=((U.length:Nat):Int):=by rw[wrap64_in _ (by omega) (by omega)];omega
 have w2:IntKind.i64.wrap ((b:Int)-(m:Int))=((V.length:Nat):Int):=by rw[wrap64_in _ (by omega) (by omega)];omega
 refine ag.aj (hint:=(fun _=>false)) Tryz.func191 (by kernel_rfl) rfl [] (by kernel_rfl) (by decide) (by simp[Tryz.ntmps191]) ?_
 rw[Tryz.ntmps191]
 simp -implicitDefEqProofs only[↓reduceIte,go_sem,Nat.reduceLT,Nat.reduceEqDiff,w1,w2]
 refine bk _ _ _ _ (fun(x:EU) s H'=>H'=aH H id ver x.L∧x.L=x.P++x.U++x.V++x.Q∧T=x.P++x.V++x.U++x.Q∧x.P.length+x.U.length=m∧0<x.U.length∧0<x.V.length∧x.L.length=n∧
   s 0= .sl id ver 0 n∧s 2=iA m∧s 4= .fn g caps∧s 10=iA x.U.length∧s 11=iA x.V.length) (fun x=>x.U.length+x.V.length) ⟨L,P,U,V,Q⟩ (al.refl _ _) ?_ ?_
 ·refine⟨hE0.symm,hL,hT,hm,hU,hV,hn,?_⟩
  simp -implicitDefEqProofs only[↓reduceIte,go_sem,Nat.reduceLT,Nat.reduceEqDiff,reduceCtorEq]
 ·rintro⟨L',P',U',V',Q'⟩ s H' ⟨rfl,hL',hT',hm',hU',hV',hn',t0,t2,t4,t10,t11⟩
  simp only at hL' hT' hm' hU' hV' hn' t0 t2 t4 t10 t11
  have hnl':P'.length+U'.length+V'.length+Q'.length=n:=by rw[←hn',hL'];simp;omega
  have w3:IntKind.i64.wrap ((m:Int)-(U'.length:Int))=((P'.length:Nat):Int):=by rw[wrap64_in _ (by omega) (by omega)];omega
  by_cases hij:U'.length=V'.length
  ·have hij':(((U'.length:Nat):Int) !=((V'.length:Nat):Int))=false:=by simp[hij]
   simp -implicitDefEqProofs only[↓reduceIte,go_sem,Nat.reduceLT,Nat.reduceEqDiff,reduceCtorEq,t10,t11,hij']
   simp -implicitDefEqProofs only[↓reduceIte,go_sem,Nat.reduceLT,Nat.reduceEqDiff,t0,t2,t4,t10,w3]
   refine ae.ok (cS H id ver hid g caps P' U' [] V' Q' L' T P'.length m U'.length n (by rw[hL'];simp) (by rw[hT'];simp) rfl rfl (by omega) (by simp;omega) hn' hbig) ?_
   simp -implicitDefEqProofs only[go_sem]
   exact⟨_,al.refl _ _,rfl⟩
  ·have hij':(((U'.length:Nat):Int) !=((V'.length:Nat):Int))=true:=by simp;omega
   by_cases hgt:V'.length<U'.length
   ·have hgt':(((V'.length:Nat):Int)<((U'.length:Nat):Int))=True:=eq_true (by omega)
    have e1:U'.take V'.length++U'.drop V'.length=U':=List.take_append_drop _ _
    have l1:(U'.take V'.length).length=V'.length:=by simp;omega
    have l2:(U'.drop V'.length).length=U'.length-V'.length:=by simp
    generalize U'.take V'.length=X at*
    generalize U'.drop V'.length=Y at*
    have e2:=congrArg List.length e1
    simp only[List.length_append]at e2
    have w4:IntKind.i64.wrap (U'.length-(V'.length:Int))=((Y.length:Nat):Int):=by rw[wrap64_in _ (by omega) (by omega)];omega
    obtain⟨L2,hL2⟩:∃L2,L2=P'++V'++Y++X++Q':=⟨_,rfl⟩
    have hl2:L2.length=n:=by rw[hL2];simp only[List.length_append]at*;omega
    simp -implicitDefEqProofs only[↓reduceIte,go_sem,Nat.reduceLT,Nat.reduceEqDiff,reduceCtorEq,t10,t11,hij',hgt']
    simp -implicitDefEqProofs only[↓reduceIte,go_sem,Nat.reduceLT,Nat.reduceEqDiff,t0,t2,t4,t11,w3]
    refine ae.ok (cS H id ver hid g caps P' X Y V' Q' L' L2 P'.length m V'.length n (by rw[hL',←e1];simp) hL2 rfl l1 rfl (by omega) hn' hbig) ?_
    simp -implicitDefEqProofs only[↓reduceIte,go_sem,Nat.reduceLT,Nat.reduceEqDiff,t10,t11,w4]
    refine⟨_,_,⟨L2,P'++V',Y,X,Q'⟩,al.refl _ _,⟨rfl,by rw[hL2];simp,by rw[hT',←e1];simp,?_,?_,?_,hl2,?_⟩,?_⟩
    ·simp only[List.length_append];omega
    ·simp only;omega
    ·simp only;omega
    ·simp -implicitDefEqProofs only[↓reduceIte,go_sem,Nat.reduceLT,Nat.reduceEqDiff,reduceCtorEq,t0,t2,t4,t11,l1]
    ·simp only;omega
   ·have hgt':(((V'.length:Nat):Int)<((U'.length:Nat):Int))=False:=eq_false (by omega)
    have e1:V'.take (V'.length-U'.length)++V'.drop (V'.length-U'.length)=V':=List.take_append_drop _ _
    have l1:(V'.take (V'.length-U'.length)).length=V'.length-U'.length:=by simp
    have l2:(V'.drop (V'.length-U'.length)).length=U'.length:=by simp;omega
    generalize V'.take (V'.length-U'.length)=Y at*
    generalize V'.drop (V'.length-U'.length)=Z at*
    have e2:=congrArg List.length e1
    simp only[List.length_append]at e2
    have w4:IntKind.i64.wrap (V'.length-(U'.length:Int))=((Y.length:Nat):Int):=by rw[wrap64_in _ (by omega) (by omega)];omega
    have w5:IntKind.i64.wrap ((m:Int)+(V'.length:Int))=(m:Int)+(V'.length:Int):=by rw[wrap64_in _ (by omega) (by omega)]
    have w6:IntKind.i64.wrap ((m:Int)+(V'.length:Int)-(U'.length:Int))=((m+Y.length:Nat):Int):=by rw[wrap64_in _ (by omega) (by omega)];omega
    obtain⟨L2,hL2⟩:∃L2,L2=P'++Z++Y++U'++Q':=⟨_,rfl⟩
    have hl2':L2.length=n:=by rw[hL2];simp only[List.length_append]at*;omega
    simp -implicitDefEqProofs only[↓reduceIte,go_sem,Nat.reduceLT,Nat.reduceEqDiff,reduceCtorEq,t10,t11,hij',hgt']
    simp -implicitDefEqProofs only[↓reduceIte,go_sem,Nat.reduceLT,Nat.reduceEqDiff,t0,t2,t4,t10,t11,w3,w5,w6]
    refine ae.ok (cS H id ver hid g caps P' U' Y Z Q' L' L2 P'.length (m+Y.length) U'.length n (by rw[hL',←e1];simp) hL2 rfl rfl l2 (by omega) hn' hbig) ?_
    simp -implicitDefEqProofs only[↓reduceIte,go_sem,Nat.reduceLT,Nat.reduceEqDiff,t10,t11,w4]
    refine⟨_,_,⟨L2,P',Z,Y,U'++Q'⟩,al.refl _ _,⟨rfl,by rw[hL2];simp,by rw[hT',←e1];simp,?_,?_,?_,hl2',?_⟩,?_⟩
    ·simp only;omega
    ·simp only;omega
    ·simp only;omega
    ·simp -implicitDefEqProofs only[↓reduceIte,go_sem,Nat.reduceLT,Nat.reduceEqDiff,reduceCtorEq,t0,t2,t4,t10,l2]
    ·simp only;omega
end SV
end Go.Proofs.YtfklokhopcmloaaGreat
namespace Go.Proofs.YtfklokhopcmloaaGreat
open Go.Proofs.YtfklokhopcmloaaGreatAw Go.RowKit
namespace SV
def aN(c:ak→ak→Int)(x y:ak):Bool:=decide (c x y<0)
def dV(g:FuncId)(caps:List AV)(c:ak→ak→Int)(H:aa)(id:Nat):Prop:=∀(o:az) (x y:ak),ag Tryz.prog g ([.agg ((ak.enc x).map .d),.agg ((ak.enc y).map .d)]++caps) (H.set id o) (.ok (iA (c x y))) (H.set id o)
theorem dV.at{g:FuncId}{caps:List AV}{c:ak→ak→Int}{H:aa}{id:Nat}(h:dV g caps c H id)(ver:Nat)(L:List ak)(x y:ak):ag Tryz.prog g ([.agg ((ak.enc x).map .d),.agg ((ak.enc y).map .d)]++caps) (aH H id ver L) (.ok (iA (c x y))) (aH H id ver L):=h _ x y
structure DZ where
 L:List ak
 A:List ak
 B:List ak
theorem ed(H:aa)(id ver:Nat)(hid:id<H.length)(g:FuncId)(caps:List AV)(c:ak→ak→Int)(ho:St.Ord (aN c))(hc:dV g caps c H id)(P X Q L L':List ak)(hL:L=P++X++Q)(hL':L'=P++St.aD (aN c) X++Q)(a b n:Nat)(ha:P.length=a)(hb:P.length+X.length=b)
  (hn:L.length=n) (hbig:n≤1000000000000):
  ag Tryz.prog 189 [.sl id ver 0 n,iA a,iA b,.fn g caps] (aH H id ver L) (.ok (.aZ [])) (aH H id ver L'):=by
 have hnl:P.length+X.length+Q.length=n:=by rw[←hn,hL];simp;omega
 generalize hE0:aH H id ver L=E0
 have w1:IntKind.i64.wrap ((a:Int)+1)=(a:Int)+1:=wrap64_in _ (by omega) (by omega)
 refine ag.aj (hint:=(fun _=>false)) Tryz.func189 (by kernel_rfl) rfl [] (by kernel_rfl) (by decide) (by simp[Tryz.ntmps189]) ?_
 rw[Tryz.ntmps189]
 simp -implicitDefEqProofs only[↓reduceIte,go_sem,Nat.reduceLT,w1]
 refine bj (fun k s H'=>(∃Lk,H'=aH H id ver Lk∧Lk=P++(St.aD (aN c) (X.take (k+1))++(X.drop (k+1)++Q)))∧s 0= .sl id ver 0 n∧s 1=iA a∧s 2=iA b∧s 3= .fn g caps∧s 8=iA ((a:Int)+1+(k:Int))) (X.length-1) (by omega) (al.refl _ _) ?_ ?_ ?_
 ·refine⟨⟨L,hE0.symm,?_⟩,?_⟩
  ·have:St.aD (aN c) (X.take 1)=X.take 1:=by cases X<;>rfl
   rw[hL,this,←List.append_assoc (X.take 1),List.take_append_drop,List.append_assoc]
  ·simp -implicitDefEqProofs only[↓reduceIte,go_sem,Nat.reduceLT,Nat.reduceEqDiff,reduceCtorEq,Int.add_zero]
 ·rintro k s H' hk hw ⟨⟨Lk,rfl,hLk⟩,t0,t1,t2,t3,t8⟩
  have hkx:k+1<X.length:=by omega
  have e1:X.drop (k+1)=X[k+1]::X.drop (k+1+1):=List.drop_eq_getElem_cons hkx
  have e2:X.take (k+1+1)=X.take (k+1)++[X[k+1]]:=List.take_succ_eq_append_getElem hkx
  have hSl:=St.aP (lt:=aN c) (X.take (k+1))
  have hXl:(X.take (k+1)).length=k+1:=by simp;omega
  have hRl:(X.drop (k+1+1)).length=X.length-(k+2):=by simp
  rw[e1]at hLk
  rw[e2]
  have hlt:((a:Int)+1+(k:Int)<(b:Int))=True:=eq_true (by omega)
  have hss:=St.cc ho (X.take (k+1))
  generalize X[k+1]=x at*
  generalize X.drop (k+1+1)=R0 at*
  generalize X.take (k+1)=X0 at*
  generalize hS:St.aD (aN c) X0=S at*
  simp -implicitDefEqProofs only[↓reduceIte,go_sem,Nat.reduceLT,Nat.reduceEqDiff,t2,t8,hlt]
  refine bk _ _ _ _ (fun(z:DZ) s H'=>H'=aH H id ver z.L∧z.L=P++z.A++x::(z.B++(R0++Q))∧z.A++z.B=S∧(∀y∈z.B,aN c x y=true)∧s 0= .sl id ver 0 n∧s 1=iA a∧s 2=iA b∧s 3= .fn g caps∧s 8=iA ((a:Int)+1+(k:Int))∧s 9=iA ((a+z.A.length:Nat):Int)) (fun z=>z.A.length) ⟨Lk,S,[]⟩ (al.refl _ _) ?_ ?_
  ·refine⟨rfl,by rw[hLk];simp,by simp,by simp,?_⟩
   simp -implicitDefEqProofs only[↓reduceIte,go_sem,Nat.reduceLT,Nat.reduceEqDiff,reduceCtorEq,t0,t1,t2,t3,t8,show((a:Int)+1+(k:Int))=((a+S.length:Nat):Int) by omega]
  ·rintro⟨L1,A,B⟩ s H' ⟨rfl,hL1,hAB,hB,t0,t1,t2,t3,t8,t9⟩
   simp only at hL1 hAB hB t0 t1 t2 t3 t8 t9
   have hABl:A.length+B.length=k+1:=by rw[←List.length_append,hAB,hSl,hXl]
   have hL1n:L1.length=n:=by rw[hL1];simp;omega
   have fin:(∀y∈A,aN c x y=false)→L1=P++(St.aD (aN c) (X0++[x])++(R0++Q)):=fun hA=>by
    rw[hL1,←St.insert_eq ho (hAB.trans hS.symm) hB hA];simp
   obtain⟨j,hj⟩:∃j,j=a+A.length:=⟨_,rfl⟩
   rw[←hj]at t9
   have hw8:IntKind.i64.wrap ((a:Int)+1+(k:Int)+1)=(a:Int)+1+((k:Int)+1):=by rw[wrap64_in _ (by omega) (by omega)];omega
   rcases List.eq_nil_or_concat A with rfl|⟨A',z,rfl⟩
   ·have hja:((a:Int)<(j:Int))=False:=eq_false (by simp at hj;omega)
    simp -implicitDefEqProofs only[go_sem]
    refine aQ K.mixed (by kernel_rfl) ?_
    simp -implicitDefEqProofs only[↓reduceIte,go_sem,Nat.reduceLT,Nat.reduceEqDiff,reduceCtorEq,t1,t9,hja,t8,hw8]
    refine c7.same ⟨⟨L1,rfl,fin (by simp)⟩,?_⟩
    simp -implicitDefEqProofs only[↓reduceIte,go_sem,Nat.reduceLT,Nat.reduceEqDiff,reduceCtorEq,t0,t1,t2,t3]
   ·simp only[List.concat_eq_append,List.length_append,List.length_singleton]at hL1 hAB hj hABl fin
    have hja:((a:Int)<(j:Int))=True:=eq_true (by omega)
    obtain⟨i,hi⟩:∃i,i=a+A'.length:=⟨_,rfl⟩
    have hw9:IntKind.i64.wrap ((j:Int)-1)=(i:Int):=by rw[wrap64_in _ (by omega) (by omega)];omega
    have hL1':L1=(P++A')++z::(x::(B++(R0++Q))):=by rw[hL1];simp
    have hL1'':L1=(P++A'++[z])++x::(B++(R0++Q)):=by rw[hL1];simp
    have gz:L1[i]?=some z:=by rw[hL1'];exact get_at (by simp;omega)
    have gx:L1[j]?=some x:=by rw[hL1''];exact get_at (by simp;omega)
    have il:i<n:=by omega
    have jl:j<n:=by omega
    have st:(L1.set j z).set i x=P++A'++x::(z::B++(R0++Q)):=by
     rw[hL1'',cd (by simp;omega)]
     have:P++A'++[z]++z::(B++(R0++Q))=(P++A')++z::(z::(B++(R0++Q))):=by simp
     rw[this,cd (by simp;omega)]
     simp
    have gz':=aC gz
    have gx':=aC gx
    have gz2:((L1.set j z).map ak.enc)[i]?=some (ak.enc z):=by
     refine aC ?_
     rw[List.getElem?_set,if_neg (by omega)];exact gz
    have s1:=b7 L1 j z
    have s2:=b7 (L1.set j z) i x
    rw[st]at s2
    have gh:=ca hid ver L1
    have hd:=hc.at ver L1 x z
    simp only[ak.enc]at gz' gx' gz2 s1 s2
    try simp only[ak.enc,List.map_cons,List.map_nil]at hd
    simp -implicitDefEqProofs only[go_sem]
    refine aQ K.mixed (by kernel_rfl) ?_
    simp -implicitDefEqProofs only[↓reduceIte,go_sem,ab,Nat.reduceAdd,Nat.reduceLT,Nat.reduceEqDiff,reduceCtorEq,t0,t1,t3,t9,hja,hw9,il,jl,gh,gz',gx']
    refine ae.ok hd ?_
    by_cases hlt2:c x z<0
    ·have hltb:aN c x z=true:=by simp[aN,hlt2]
     simp -implicitDefEqProofs only[↓reduceIte,go_sem,Nat.reduceLT,Nat.reduceEqDiff,hlt2]
     refine dJ [false,false,false,false,false,false,false,false,false,false,false,false,false,false,true,true,true,true] 14 K.mixed (by kernel_rfl) (by kernel_rfl) (by kernel_rfl) ?_
     simp -implicitDefEqProofs only[↓reduceIte,go_sem,ab,an,Nat.reduceAdd,Nat.reduceLT,Nat.reduceEqDiff,reduceCtorEq,t0,t9,hw9,il,jl,gh,gz',gx',dR,s1,gz2,s2,hid,List.getElem?_set_self,List.set_set]
     refine⟨_,_,⟨_,A',z::B⟩,al.refl _ _,⟨by rw[←dz],rfl,by rw[←hAB];simp,?_,?_⟩,by simp⟩
     ·intro y hy
      rcases List.mem_cons.1 hy with rfl|hy
      ·exact hltb
      ·exact hB y hy
     ·simp -implicitDefEqProofs only[↓reduceIte,go_sem,Nat.reduceLT,Nat.reduceEqDiff,reduceCtorEq,t0,t1,t2,t3,t8,show((a:Int)+(A'.length:Int))=(i:Int) by omega]
    ·have hltb:aN c x z=false:=by simp[aN,hlt2]
     have hAx:∀y∈A'++[z],aN c x y=false:=by
      intro y hy
      have hso:=hss
      rw[←hAB]at hso
      rcases List.mem_append.1 hy with hy|hy
      ·exact ho.le_trans (hso.left.uv y hy z (by simp)) hltb
      ·simp at hy;rw[hy];exact hltb
     simp -implicitDefEqProofs only[↓reduceIte,go_sem,Nat.reduceLT,Nat.reduceEqDiff,hlt2,t8,hw8]
     refine c7.same ⟨⟨L1,rfl,fin hAx⟩,?_⟩
     simp -implicitDefEqProofs only[↓reduceIte,go_sem,Nat.reduceLT,Nat.reduceEqDiff,reduceCtorEq,t0,t1,t2,t3]
 ·rintro s H' ⟨⟨Lk,rfl,hLk⟩,t0,t1,t2,t3,t8⟩
  have hlt:((a:Int)+1+((X.length-1:Nat):Int)<(b:Int))=False:=eq_false (by omega)
  simp -implicitDefEqProofs only[↓reduceIte,go_sem,Nat.reduceLT,Nat.reduceEqDiff,t2,t8,hlt]
  have:Lk=L':=by
   rw[hLk,hL',List.take_of_length_le (by omega),List.drop_of_length_le (by omega)];simp
  rw[this]
  exact⟨_,al.refl _ _,rfl⟩
end SV
end Go.Proofs.YtfklokhopcmloaaGreat
namespace Go.Proofs.YtfklokhopcmloaaGreat
open Go.Proofs.YtfklokhopcmloaaGreatAw Go.RowKit
namespace SV
theorem eT(n:Nat)(h:n≤2000000000000):IntKind.i64.wrap (kK .u64 (IntKind.u64.wrap (n:Int)) 1)=((n/2:Nat):Int):=by
 rw[cL n (by omega)]
 have:=tk n 1 (by decide)
 rw[show((1:Nat):Int)=1 from rfl]at this
 rw[this]
 exact Bf _ (by omega)
theorem gG{L P R:List ak}{x y:ak}(h:L=P++x::y::R){i:Nat}(hi:P.length=i):L[i]?=some x∧L[i+1]?=some y∧(L.set i y)[i+1]?=some y∧(L.set (i+1) x)[i]?=some x∧(L.set i y).set (i+1) x=P++y::x::R∧(L.set (i+1) x).set i y=P++y::x::R:=by
 subst h hi
 have e:P++x::y::R=(P++[x])++y::R:=by simp
 have e2:∀z:ak,P++z::y::R=(P++[z])++y::R:=by simp
 have h1:∀z:ak,(P++[z]).length=P.length+1:=by simp
 refine⟨get_at rfl,by rw[e];exact get_at (h1 x),?_,?_,?_,?_⟩
 ·rw[cd rfl,e2];exact get_at (h1 y)
 ·rw[e,cd (h1 x)]
  have:P++[x]++x::R=P++x::(x::R):=by simp
  rw[this];exact get_at rfl
 ·rw[cd rfl,e2,cd (h1 y)];simp
 ·rw[e,cd (h1 x)]
  have:P++[x]++x::R=P++x::(x::R):=by simp
  rw[this,cd rfl]
theorem wV{P X Y Q L:List ak}{a:Nat}(hL:L=P++X++Y++Q)(ha:P.length=a):∀i x,X[i]?=some x→L[a+i]?=some x:=fun i x hx=>by
 have:=(List.getElem?_eq_some_iff.1 hx).1
 rw[hL,List.append_assoc,List.append_assoc,←ha,List.getElem?_append_right (by omega),List.getElem?_append_left (by omega),Nat.add_sub_cancel_left]
 exact hx
theorem wA{P X Y Q L:List ak}{m:Nat}(hL:L=P++X++Y++Q)(hm:P.length+X.length=m):∀i y,Y[i]?=some y→L[m+i]?=some y:=fun i y hy=>by
 have:=(List.getElem?_eq_some_iff.1 hy).1
 rw[hL,List.append_assoc (P++X),←hm,List.getElem?_append_right (by simp),List.getElem?_append_left (by simp;omega)]
 simpa[Nat.add_sub_cancel_left]using hy
theorem lZ(H:aa)(id ver:Nat)(hid:id<H.length)(g:FuncId)(caps:List AV)(c:ak→ak→Int)(ho:St.Ord (aN c))(hc:dV g caps c H id)(n:Nat)(hbig:n≤1000000000000)(P X Y Q L L':List ak)(a m b:Nat)
  (hL:L=P++X++Y++Q) (hL':L'=P++St.aD (aN c) (X++Y)++Q) (ha:P.length=a) (hm:P.length+X.length=m) (hb:P.length+X.length+Y.length=b) (hX0:0<X.length) (hY0:0<Y.length) (hX:St.aq (aN c) X) (hY:St.aq (aN c) Y) (hn:L.length=n) (h1:X.length=1):
  ag Tryz.prog 190 [.sl id ver 0 n,iA a,iA m,iA b,.fn g caps] (aH H id ver L) (.ok (.aZ [])) (aH H id ver L'):=by
 have hnl:P.length+X.length+Y.length+Q.length=n:=by rw[←hn,hL];simp;omega
 have w1:IntKind.i64.wrap ((m:Int)-(a:Int))=((X.length:Nat):Int):=by rw[wrap64_in _ (by omega) (by omega)];omega
 have w2:IntKind.i64.wrap ((b:Int)-(m:Int))=((Y.length:Nat):Int):=by rw[wrap64_in _ (by omega) (by omega)];omega
 have hLX:=wV hL ha
 have hLY:=wA hL hm
 generalize hE0:aH H id ver L=E0
 have gh:=ca hid ver L
 rw[hE0]at gh
 have hcE:∀x y:ak,ag Tryz.prog g ([.agg ((ak.enc x).map .d),.agg ((ak.enc y).map .d)]++caps) E0 (.ok (iA (c x y))) E0:=fun x y=>by rw[←hE0];exact hc.at ver L x y
 refine ag.aj (hint:=(fun _=>false)) Tryz.func190 (by kernel_rfl) rfl [] (by kernel_rfl) (by decide) (by simp[Tryz.ntmps190]) ?_
 rw[Tryz.ntmps190]
 obtain⟨x,rfl⟩:∃x,X=[x]:=List.length_eq_one_iff.1 h1
 simp -implicitDefEqProofs only[↓reduceIte,go_sem,Nat.reduceLT,Nat.reduceEqDiff,w1,h1]
 refine bk _ _ _ _ (fun(z:Nat×Nat) s H'=>H'=E0∧z.1≤z.2∧z.2≤Y.length∧(z.1=0∨∃y,Y[z.1-1]?=some y∧aN c y x=true)∧(z.2=Y.length∨∃y,Y[z.2]?=some y∧aN c y x=false)∧
  s 0= .sl id ver 0 n∧s 1=iA a∧s 4= .fn g caps∧s 10=iA ((m+z.1:Nat):Int)∧s 11=iA ((m+z.2:Nat):Int)) (fun z=>z.2-z.1) (0,Y.length) (al.refl _ _) ?_ ?_
 ·refine⟨rfl,Nat.zero_le _,Nat.le_refl _,.inl rfl,.inl rfl,?_⟩
  simp -implicitDefEqProofs only[↓reduceIte,go_sem,Nat.reduceLT,Nat.reduceEqDiff,reduceCtorEq,show m+Y.length=b by omega,Nat.add_zero]
 ·rintro⟨i,j⟩ s H' ⟨rfl,hij,hj,hlo,hhi,t0,t1,t4,t10,t11⟩
  simp only at hij hj hlo hhi t10 t11
  obtain⟨i',hi'⟩:∃i',i'=m+i:=⟨_,rfl⟩
  obtain⟨j',hj'⟩:∃j',j'=m+j:=⟨_,rfl⟩
  rw[←hi']at t10
  rw[←hj']at t11
  have f1:((m:Int)+(i:Int))=(i':Int):=by omega
  have f2:((m:Int)+(j:Int))=(j':Int):=by omega
  by_cases hlt:i<j
  ·obtain⟨q,hq⟩:∃q,q=i'+j':=⟨_,rfl⟩
   have w3:IntKind.i64.wrap ((i':Int)+(j':Int))=(q:Int):=by rw[wrap64_in _ (by omega) (by omega)];omega
   have w4:=eT q (by omega)
   obtain⟨h,hh⟩:∃h,h=q/2:=⟨_,rfl⟩
   rw[←hh]at w4
   obtain⟨y,hy⟩:∃y,Y[h-m]?=some y:=⟨_,List.getElem?_eq_getElem (show h-m<Y.length by omega)⟩
   have gy:=aC (hLY _ _ hy)
   rw[show m+(h-m)=h by omega]at gy
   have gx:=aC (hLX 0 x rfl)
   rw[Nat.add_zero]at gx
   have hd:=hcE y x
   simp only[ak.enc]at gx gy
   try simp only[ak.enc,List.map_cons,List.map_nil]at hd
   have hln:h<n:=by omega
   have han:a<n:=by omega
   simp -implicitDefEqProofs only[↓reduceIte,go_sem,Nat.reduceLT,Nat.reduceEqDiff,Int.reduceLE,t10,t11,show((i':Int)<(j':Int))=True from eq_true (by omega),w3,w4]
   refine aQ K.mixed (by kernel_rfl) ?_
   simp -implicitDefEqProofs only[↓reduceIte,go_sem,ab,Nat.reduceAdd,Nat.reduceLT,Nat.reduceEqDiff,reduceCtorEq,t0,t1,t4,gh,gx,gy,hln,han]
   refine ae.ok hd ?_
   by_cases hcc:c y x<0
   ·have hw5:IntKind.i64.wrap ((h:Int)+1)=((m+(h-m+1):Nat):Int):=by rw[wrap64_in _ (by omega) (by omega)];omega
    obtain⟨h2,hh2⟩:∃h2,h2=m+(h-m+1):=⟨_,rfl⟩
    rw[←hh2]at hw5
    simp -implicitDefEqProofs only[↓reduceIte,go_sem,Nat.reduceLT,Nat.reduceEqDiff,hcc,hw5]
    refine⟨_,_,(h-m+1,j),al.refl _ _,⟨rfl,by simp only;omega,hj,.inr ⟨y,by simpa using hy,by simp[aN,hcc]⟩,hhi,?_⟩,by simp only;omega⟩
    simp -implicitDefEqProofs only[↓reduceIte,go_sem,Nat.reduceLT,Nat.reduceEqDiff,reduceCtorEq,t0,t1,t4,t11,show((m:Int)+(((h-m:Nat):Int)+1))=(h2:Int) by omega,f2]
   ·simp -implicitDefEqProofs only[↓reduceIte,go_sem,Nat.reduceLT,Nat.reduceEqDiff,hcc]
    refine⟨_,_,(i,h-m),al.refl _ _,⟨rfl,by simp only;omega,by simp only;omega,hlo,.inr ⟨y,hy,by simp[aN,hcc]⟩,?_⟩,by simp only;omega⟩
    simp -implicitDefEqProofs only[↓reduceIte,go_sem,Nat.reduceLT,Nat.reduceEqDiff,reduceCtorEq,t0,t1,t4,t10,show((m:Int)+((h-m:Nat):Int))=(h:Int) by omega,f1]
  ·obtain rfl:j=i:=by omega
   have hmg:=St.qG ho hY hj hlo hhi
   have hw6:IntKind.i64.wrap ((i':Int)-1)=(i':Int)-1:=wrap64_in _ (by omega) (by omega)
   simp -implicitDefEqProofs only[↓reduceIte,go_sem,Nat.reduceLT,Nat.reduceEqDiff,t10,t11,show((i':Int)<(j':Int))=False from eq_false (by omega),t1]
   refine bj (fun k s H'=>(∃Lk,H'=aH H id ver Lk∧Lk=P++Y.take k++x::(Y.drop k++Q))∧s 0= .sl id ver 0 n∧s 10=iA i'∧s 13=iA ((a:Int)+(k:Int))) j (by omega) (al.refl _ _) ?_ ?_ ?_
   ·refine⟨⟨L,hE0.symm,by rw[hL];simp⟩,?_⟩
    simp -implicitDefEqProofs only[↓reduceIte,go_sem,Nat.reduceLT,Nat.reduceEqDiff,reduceCtorEq,t0,t10,Int.add_zero]
   ·rintro k s H' hk hw ⟨⟨Lk,rfl,hLk⟩,t0,t10,t13⟩
    have hkY:k<Y.length:=by omega
    have e1:Y.drop k=Y[k]::Y.drop (k+1):=List.drop_eq_getElem_cons hkY
    have e2:Y.take (k+1)=Y.take k++[Y[k]]:=List.take_succ_eq_append_getElem hkY
    rw[e1]at hLk
    rw[e2]
    have l1:(P++Y.take k).length=a+k:=by simp;omega
    generalize Y[k]=y at*
    generalize Y.drop (k+1)=Y1 at*
    generalize Y.take k=Y0 at*
    obtain⟨u,hu⟩:∃u,u=a+k:=⟨_,rfl⟩
    obtain⟨v,hv⟩:∃v,v=u+1:=⟨_,rfl⟩
    rw[←hu]at l1
    obtain⟨g1,g2,g3,_,g5,_⟩:=gG (L:=Lk) (P:=P++Y0) (x:=x) (y:=y) (R:=Y1++Q) (by rw[hLk];simp) l1
    rw[←hv]at g2 g3 g5
    have f3:((a:Int)+(k:Int))=(u:Int):=by omega
    have hw7:IntKind.i64.wrap ((u:Int)+1)=(v:Int):=by rw[wrap64_in _ (by omega) (by omega)];omega
    rw[f3]at t13
    have gg:=ca hid ver Lk
    have q1:=aC g1
    have q2:=aC g2
    have q3:=aC g3
    have s1:=b7 Lk u y
    have s2:=b7 (Lk.set u y) v x
    rw[g5]at s2
    have hun:u<n:=by omega
    have hvn:v<n:=by omega
    simp only[ak.enc]at q1 q2 q3 s1 s2
    simp -implicitDefEqProofs only[↓reduceIte,go_sem,Nat.reduceLT,Nat.reduceEqDiff,t10,t13,hw6,show((u:Int)<(i':Int)-1)=True from eq_true (by omega)]
    refine dJ [false,false,false,false,false,false,false,false,false,false,false,false,false,false,true,true,true,true] 14 K.mixed (by kernel_rfl) (by kernel_rfl) (by kernel_rfl) ?_
    simp -implicitDefEqProofs only[↓reduceIte,go_sem,ab,an,Nat.reduceAdd,Nat.reduceLT,Nat.reduceEqDiff,reduceCtorEq,t0,t13,hw7,hun,hvn,gg,q1,q2,q3,s1,s2,dR,hid,List.getElem?_set_self,List.set_set]
    refine c7.same ⟨⟨_,by rw[←dz],by simp⟩,?_⟩
    simp -implicitDefEqProofs only[↓reduceIte,go_sem,Nat.reduceLT,Nat.reduceEqDiff,reduceCtorEq,t0,t10,show((a:Int)+((k:Int)+1))=(v:Int) by omega]
   ·rintro s H' ⟨⟨Lk,rfl,hLk⟩,t0,t10,t13⟩
    simp -implicitDefEqProofs only[↓reduceIte,go_sem,Nat.reduceLT,Nat.reduceEqDiff,t10,t13,hw6,show((a:Int)+(j:Int)<(i':Int)-1)=False from eq_false (by omega)]
    have:Lk=L':=by rw[hLk,hL',List.singleton_append,←hmg];simp
    rw[this]
    exact⟨_,al.refl _ _,rfl⟩
theorem lC(H:aa)(id ver:Nat)(hid:id<H.length)(g:FuncId)(caps:List AV)(c:ak→ak→Int)(ho:St.Ord (aN c))(hc:dV g caps c H id)(n:Nat)(hbig:n≤1000000000000)(P X Y Q L L':List ak)(a m b:Nat)
  (hL:L=P++X++Y++Q) (hL':L'=P++St.aD (aN c) (X++Y)++Q) (ha:P.length=a) (hm:P.length+X.length=m) (hb:P.length+X.length+Y.length=b) (hX0:0<X.length) (hY0:0<Y.length) (hX:St.aq (aN c) X) (hY:St.aq (aN c) Y) (hn:L.length=n) (h1:¬X.length=1) (h2:Y.length=1):
  ag Tryz.prog 190 [.sl id ver 0 n,iA a,iA m,iA b,.fn g caps] (aH H id ver L) (.ok (.aZ [])) (aH H id ver L'):=by
 have hnl:P.length+X.length+Y.length+Q.length=n:=by rw[←hn,hL];simp;omega
 have w1:IntKind.i64.wrap ((m:Int)-(a:Int))=((X.length:Nat):Int):=by rw[wrap64_in _ (by omega) (by omega)];omega
 have w2:IntKind.i64.wrap ((b:Int)-(m:Int))=((Y.length:Nat):Int):=by rw[wrap64_in _ (by omega) (by omega)];omega
 have hLX:=wV hL ha
 have hLY:=wA hL hm
 generalize hE0:aH H id ver L=E0
 have gh:=ca hid ver L
 rw[hE0]at gh
 have hcE:∀x y:ak,ag Tryz.prog g ([.agg ((ak.enc x).map .d),.agg ((ak.enc y).map .d)]++caps) E0 (.ok (iA (c x y))) E0:=fun x y=>by rw[←hE0];exact hc.at ver L x y
 refine ag.aj (hint:=(fun _=>false)) Tryz.func190 (by kernel_rfl) rfl [] (by kernel_rfl) (by decide) (by simp[Tryz.ntmps190]) ?_
 rw[Tryz.ntmps190]
 obtain⟨y,rfl⟩:∃y,Y=[y]:=List.length_eq_one_iff.1 h2
 simp -implicitDefEqProofs only[↓reduceIte,go_sem,Nat.reduceLT,Nat.reduceEqDiff,w1,w2,show(((X.length:Nat):Int)=1)=False from eq_false (by omega),h2]
 refine bk _ _ _ _ (fun(z:Nat×Nat) s H'=>H'=E0∧z.1≤z.2∧z.2≤X.length∧(z.1=0∨∃x,X[z.1-1]?=some x∧aN c y x=false)∧(z.2=X.length∨∃x,X[z.2]?=some x∧aN c y x=true)∧
  s 0= .sl id ver 0 n∧s 2=iA m∧s 4= .fn g caps∧s 14=iA ((a+z.1:Nat):Int)∧s 15=iA ((a+z.2:Nat):Int)) (fun z=>z.2-z.1) (0,X.length) (al.refl _ _) ?_ ?_
 ·refine⟨rfl,Nat.zero_le _,Nat.le_refl _,.inl rfl,.inl rfl,?_⟩
  simp -implicitDefEqProofs only[↓reduceIte,go_sem,Nat.reduceLT,Nat.reduceEqDiff,reduceCtorEq,show((a:Int)+((X.length:Nat):Int))=(m:Int) by omega,Nat.add_zero]
 ·rintro⟨i,j⟩ s H' ⟨rfl,hij,hj,hlo,hhi,t0,t2,t4,t14,t15⟩
  simp only at hij hj hlo hhi t14 t15
  obtain⟨i',hi'⟩:∃i',i'=a+i:=⟨_,rfl⟩
  obtain⟨j',hj'⟩:∃j',j'=a+j:=⟨_,rfl⟩
  rw[←hi']at t14
  rw[←hj']at t15
  have f1:((a:Int)+(i:Int))=(i':Int):=by omega
  have f2:((a:Int)+(j:Int))=(j':Int):=by omega
  by_cases hlt:i<j
  ·obtain⟨q,hq⟩:∃q,q=i'+j':=⟨_,rfl⟩
   have w3:IntKind.i64.wrap ((i':Int)+(j':Int))=(q:Int):=by rw[wrap64_in _ (by omega) (by omega)];omega
   have w4:=eT q (by omega)
   obtain⟨h,hh⟩:∃h,h=q/2:=⟨_,rfl⟩
   rw[←hh]at w4
   obtain⟨x,hx⟩:∃x,X[h-a]?=some x:=⟨_,List.getElem?_eq_getElem (show h-a<X.length by omega)⟩
   have gx:=aC (hLX _ _ hx)
   rw[show a+(h-a)=h by omega]at gx
   have gy:=aC (hLY 0 y rfl)
   rw[Nat.add_zero]at gy
   have hd:=hcE y x
   simp only[ak.enc]at gx gy
   try simp only[ak.enc,List.map_cons,List.map_nil]at hd
   have hln:h<n:=by omega
   have hmn:m<n:=by omega
   simp -implicitDefEqProofs only[↓reduceIte,go_sem,Nat.reduceLT,Nat.reduceEqDiff,Int.reduceLE,t14,t15,show((i':Int)<(j':Int))=True from eq_true (by omega),w3,w4]
   refine aQ K.mixed (by kernel_rfl) ?_
   simp -implicitDefEqProofs only[↓reduceIte,go_sem,ab,Nat.reduceAdd,Nat.reduceLT,Nat.reduceEqDiff,reduceCtorEq,t0,t2,t4,gh,gx,gy,hln,hmn]
   refine ae.ok hd ?_
   by_cases hcc:c y x<0
   ·simp -implicitDefEqProofs only[↓reduceIte,go_sem,Nat.reduceLT,Nat.reduceEqDiff,hcc]
    refine⟨_,_,(i,h-a),al.refl _ _,⟨rfl,by simp only;omega,by simp only;omega,hlo,.inr ⟨x,hx,by simp[aN,hcc]⟩,?_⟩,by simp only;omega⟩
    simp -implicitDefEqProofs only[↓reduceIte,go_sem,Nat.reduceLT,Nat.reduceEqDiff,reduceCtorEq,t0,t2,t4,t14,show((a:Int)+((h-a:Nat):Int))=(h:Int) by omega,f1]
   ·have hw5:IntKind.i64.wrap ((h:Int)+1)=((a+(h-a+1):Nat):Int):=by rw[wrap64_in _ (by omega) (by omega)];omega
    obtain⟨h2,hh2⟩:∃h2,h2=a+(h-a+1):=⟨_,rfl⟩
    rw[←hh2]at hw5
    simp -implicitDefEqProofs only[↓reduceIte,go_sem,Nat.reduceLT,Nat.reduceEqDiff,hcc,hw5]
    refine⟨_,_,(h-a+1,j),al.refl _ _,⟨rfl,by simp only;omega,hj,.inr ⟨x,by simpa using hx,by simp[aN,hcc]⟩,hhi,?_⟩,by simp only;omega⟩
    simp -implicitDefEqProofs only[↓reduceIte,go_sem,Nat.reduceLT,Nat.reduceEqDiff,reduceCtorEq,t0,t2,t4,t15,show((a:Int)+(((h-a:Nat):Int)+1))=(h2:Int) by omega,f2]
  ·obtain rfl:j=i:=by omega
   have hmg:=St.nc ho hX hj hhi hlo
   simp -implicitDefEqProofs only[↓reduceIte,go_sem,Nat.reduceLT,Nat.reduceEqDiff,t14,t15,show((i':Int)<(j':Int))=False from eq_false (by omega),t2]
   refine bk _ _ _ _ (fun(k:Nat) s H'=>k≤X.length-j∧(∃Lk,H'=aH H id ver Lk∧Lk=P++X.take (j+k)++y::(X.drop (j+k)++Q))∧s 0= .sl id ver 0 n∧s 14=iA i'∧s 17=iA ((i':Int)+(k:Int))) (fun k=>k) (X.length-j) (al.refl _ _) ?_ ?_
   ·refine⟨Nat.le_refl _,⟨L,hE0.symm,?_⟩,?_⟩
    ·rw[show j+(X.length-j)=X.length by omega,List.take_length,List.drop_length,hL];simp
    ·simp -implicitDefEqProofs only[↓reduceIte,go_sem,Nat.reduceLT,Nat.reduceEqDiff,reduceCtorEq,t0,t14,show((i':Int)+((X.length-j:Nat):Int))=(m:Int) by omega]
   ·rintro k s H' ⟨hkx,⟨Lk,rfl,hLk⟩,t0,t14,t17⟩
    cases k with
    |zero=>
     simp -implicitDefEqProofs only[↓reduceIte,go_sem,Nat.reduceLT,Nat.reduceEqDiff,t14,t17,Int.add_zero,Int.lt_irrefl]
     have:Lk=L':=by rw[hLk,hL',Nat.add_zero,←hmg];simp
     rw[this]
     exact⟨_,al.refl _ _,rfl⟩
    |succ k=>
     have hkX:j+k<X.length:=by omega
     have e1:X.drop (j+k)=X[j+k]::X.drop (j+k+1):=List.drop_eq_getElem_cons hkX
     have e2:X.take (j+k+1)=X.take (j+k)++[X[j+k]]:=List.take_succ_eq_append_getElem hkX
     rw[show j+(k+1)=j+k+1 by omega,e2]at hLk
     have l1:(P++X.take (j+k)).length=i'+k:=by simp;omega
     obtain⟨u,hu⟩:∃u,u=i'+k:=⟨_,rfl⟩
     obtain⟨v,hv⟩:∃v,v=u+1:=⟨_,rfl⟩
     rw[←hu]at l1
     have fk:((i':Int)+((k+1:Nat):Int))=(v:Int):=by omega
     have fk2:((i':Int)+(k:Int))=(u:Int):=by omega
     rw[fk]at t17
     generalize X[j+k]=x at*
     generalize X.drop (j+k+1)=X1 at*
     obtain⟨g1,g2,_,g4,_,g6⟩:=gG (L:=Lk) (P:=P++X.take (j+k)) (x:=x) (y:=y) (R:=X1++Q) (by rw[hLk];simp) l1
     rw[←hv]at g2 g4 g6
     have hw7:IntKind.i64.wrap ((v:Int)-1)=(u:Int):=by rw[wrap64_in _ (by omega) (by omega)];omega
     have gg:=ca hid ver Lk
     have q1:=aC g1
     have q2:=aC g2
     have q4:=aC g4
     have s1:=b7 Lk v x
     have s2:=b7 (Lk.set v x) u y
     rw[g6]at s2
     have hun:u<n:=by omega
     have hvn:v<n:=by omega
     simp only[ak.enc]at q1 q2 q4 s1 s2
     simp -implicitDefEqProofs only[↓reduceIte,go_sem,Nat.reduceLT,Nat.reduceEqDiff,t14,t17,show((i':Int)<(v:Int))=True from eq_true (by omega)]
     refine dJ [false,false,false,false,false,false,false,false,false,false,false,false,false,false,true,true,true,true] 14 K.mixed (by kernel_rfl) (by kernel_rfl) (by kernel_rfl) ?_
     simp -implicitDefEqProofs only[↓reduceIte,go_sem,ab,an,Nat.reduceAdd,Nat.reduceLT,Nat.reduceEqDiff,reduceCtorEq,t0,t17,hw7,hun,hvn,gg,q1,q2,q4,s1,s2,dR,hid,List.getElem?_set_self,List.set_set]
     refine⟨_,_,k,al.refl _ _,⟨by omega,⟨_,by rw[←dz],by rw[e1];simp⟩,?_⟩,by omega⟩
     simp -implicitDefEqProofs only[↓reduceIte,go_sem,Nat.reduceLT,Nat.reduceEqDiff,reduceCtorEq,t0,t14,fk2]
end SV
end Go.Proofs.YtfklokhopcmloaaGreat
namespace Go.Proofs.YtfklokhopcmloaaGreat
open Go.Proofs.YtfklokhopcmloaaGreatAw Go.RowKit
namespace SV
def Hid(p:Prop):Prop:=p
theorem mh{a m b q mid n0 s0 r0 lx ly:Nat}(hm:a+lx=m)(hb:a+lx+ly=b)(hq:q=a+b)(hmid:mid=q/2)(hn0:n0=mid+m)(hs0:s0=if mid<m then n0-b else a)(hr0:r0=if mid<m then mid else m)(hx:0<lx)(hy:0<ly)(h1:¬lx=1):
  (s0≤r0∧a≤s0∧r0≤m∧r0≤mid)∧(n0≤b+s0∧mid<b∧a<mid)∧Hid (r0=m∨n0=m+r0)∧Hid (s0=a∨n0=b+s0)∧m+r0≤n0∧(mid<m→b≤n0):=by
 by_cases h:mid<m
 ·rw[if_pos h]at hs0 hr0;unfold Hid;omega
 ·rw[if_neg h]at hs0 hr0;unfold Hid;omega
theorem mg(H:aa)(id ver:Nat)(hid:id<H.length)(g:FuncId)(caps:List AV)(c:ak→ak→Int)(ho:St.Ord (aN c))(hc:dV g caps c H id)(n:Nat)(hbig:n≤1000000000000)(P X Y Q L L':List ak)(a m b:Nat)
  (hL:L=P++X++Y++Q) (hL':L'=P++St.aD (aN c) (X++Y)++Q) (ha:P.length=a) (hm:P.length+X.length=m) (hb:P.length+X.length+Y.length=b) (hX0:0<X.length) (hY0:0<Y.length) (hX:St.aq (aN c) X) (hY:St.aq (aN c) Y) (hn:L.length=n) (h1:¬X.length=1) (h2:¬Y.length=1)
  (ih:∀(P' X' Y' Q' L1 L2:List ak) (a' m' b':Nat),X'.length+Y'.length<X.length+Y.length→L1=P'++X'++Y'++Q'→L2=P'++St.aD (aN c) (X'++Y')++Q'→P'.length=a'→P'.length+X'.length=m'→P'.length+X'.length+Y'.length=b'→0<X'.length→0<Y'.length→
   St.aq (aN c) X'→St.aq (aN c) Y'→L1.length=n→ag Tryz.prog 190 [.sl id ver 0 n,iA a',iA m',iA b',.fn g caps] (aH H id ver L1) (.ok (.aZ [])) (aH H id ver L2)):
  ag Tryz.prog 190 [.sl id ver 0 n,iA a,iA m,iA b,.fn g caps] (aH H id ver L) (.ok (.aZ [])) (aH H id ver L'):=by
 have hnl:P.length+X.length+Y.length+Q.length=n:=by rw[←hn,hL];simp;omega
 have w1:IntKind.i64.wrap ((m:Int)-(a:Int))=((X.length:Nat):Int):=by rw[wrap64_in _ (by omega) (by omega)];omega
 have w2:IntKind.i64.wrap ((b:Int)-(m:Int))=((Y.length:Nat):Int):=by rw[wrap64_in _ (by omega) (by omega)];omega
 have hLX:=wV hL ha
 have hLY:=wA hL hm
 generalize hE0:aH H id ver L=E0
 have gh:=ca hid ver L
 rw[hE0]at gh
 have hcE:∀x y:ak,ag Tryz.prog g ([.agg ((ak.enc x).map .d),.agg ((ak.enc y).map .d)]++caps) E0 (.ok (iA (c x y))) E0:=fun x y=>by rw[←hE0];exact hc.at ver L x y
 refine ag.aj (hint:=(fun _=>false)) Tryz.func190 (by kernel_rfl) rfl [] (by kernel_rfl) (by decide) (by simp[Tryz.ntmps190]) ?_
 rw[Tryz.ntmps190]
 obtain⟨q,hq⟩:∃q,q=a+b:=⟨_,rfl⟩
 obtain⟨mid,hmid⟩:∃mid,mid=q/2:=⟨_,rfl⟩
 obtain⟨n0,hn0⟩:∃n0,n0=mid+m:=⟨_,rfl⟩
 obtain⟨p,hp⟩:∃p,p=n0-1:=⟨_,rfl⟩
 have w3:IntKind.i64.wrap ((a:Int)+(b:Int))=(q:Int):=by rw[wrap64_in _ (by omega) (by omega)];omega
 have w4:=eT q (by omega)
 rw[←hmid]at w4
 have w5:IntKind.i64.wrap ((mid:Int)+(m:Int))=(n0:Int):=by rw[wrap64_in _ (by omega) (by omega)];omega
 have w6:IntKind.i64.wrap ((n0:Int)-1)=(p:Int):=by rw[wrap64_in _ (by omega) (by omega)];omega
 obtain⟨s0,hs0⟩:∃s0,s0=if mid<m then n0-b else a:=⟨_,rfl⟩
 obtain⟨r0,hr0⟩:∃r0,r0=if mid<m then mid else m:=⟨_,rfl⟩
 obtain⟨a1,a2,a3,a4,a5,a6⟩:=mh (by omega) (by omega) hq hmid hn0 hs0 hr0 hX0 hY0 h1
 have w7:mid<m→IntKind.i64.wrap ((n0:Int)-(b:Int))=(s0:Int):=fun h=>by have:=a6 h;rw[if_pos h]at hs0;rw[wrap64_in _ (by omega) (by omega)];omega
 simp -implicitDefEqProofs only[↓reduceIte,go_sem,Nat.reduceLT,Nat.reduceEqDiff,Int.reduceLE,w1,w2,show(((X.length:Nat):Int)=1)=False from eq_false (by omega),show(((Y.length:Nat):Int)=1)=False from eq_false (by omega),w3,w4,w5]
 refine gP (fun s H'=>H'=E0∧s 0= .sl id ver 0 n∧s 1=iA a∧s 2=iA m∧s 3=iA b∧s 4= .fn g caps∧s 18=iA mid∧s 19=iA n0∧s 20=iA s0∧s 21=iA r0) rfl ?_ ?_
 ·by_cases hmm:mid<m
  ·simp -implicitDefEqProofs only[↓reduceIte,go_sem,Nat.reduceLT,Nat.reduceEqDiff,reduceCtorEq,eq_true hmm,w7 hmm]
   rw[hr0,if_pos hmm]
  ·simp -implicitDefEqProofs only[↓reduceIte,go_sem,Nat.reduceLT,Nat.reduceEqDiff,reduceCtorEq,eq_false hmm]
   rw[hs0,hr0,if_neg hmm,if_neg hmm]
   exact⟨rfl,rfl⟩
 ·clear hs0 hr0 w3 w4 w5 w7 a6 hmid
  rintro s H' ⟨rfl,t0,t1,t2,t3,t4,t18,t19,t20,t21⟩
  simp -implicitDefEqProofs only[↓reduceIte,go_sem,Nat.reduceLT,t19,w6]
  refine fJ (fun s H1=>H1=H'∧(∃st,s0≤st∧st≤r0∧Hid (st=s0∨∃x y,X[st-1-a]?=some x∧Y[n0-st-m]?=some y∧aN c y x=false)∧Hid (st=r0∨∃x y,X[st-a]?=some x∧Y[p-st-m]?=some y∧aN c y x=true)∧s 20=iA st)∧
   s 0= .sl id ver 0 n∧s 1=iA a∧s 2=iA m∧s 3=iA b∧s 4= .fn g caps∧s 18=iA mid∧s 19=iA n0) rfl ?_ ?_
  ·refine bk _ _ _ _ (fun(z:Nat×Nat) s H1=>H1=H'∧s0≤z.1∧z.1≤z.2∧z.2≤r0∧Hid (z.1=s0∨∃x y,X[z.1-1-a]?=some x∧Y[n0-z.1-m]?=some y∧aN c y x=false)∧Hid (z.2=r0∨∃x y,X[z.2-a]?=some x∧Y[p-z.2-m]?=some y∧aN c y x=true)∧
    s 0= .sl id ver 0 n∧s 1=iA a∧s 2=iA m∧s 3=iA b∧s 4= .fn g caps∧s 18=iA mid∧s 19=iA n0∧s 20=iA z.1∧s 21=iA z.2∧s 22=iA p) (fun z=>z.2-z.1) (s0,r0) (al.refl _ _) ?_ ?_
   ·refine⟨rfl,Nat.le_refl _,a1.1,Nat.le_refl _,.inl rfl,.inl rfl,?_⟩
    simp -implicitDefEqProofs only[↓reduceIte,go_sem,Nat.reduceLT,Nat.reduceEqDiff,reduceCtorEq,t0,t1,t2,t3,t4,t18,t19,t20,t21]
   ·rintro⟨i,j⟩ s H1 ⟨rfl,hi0,hij,hj0,hlo,hhi,t0,t1,t2,t3,t4,t18,t19,t20,t21,t22⟩
    simp only at hi0 hij hj0 hlo hhi t20 t21
    by_cases hlt:i<j
    ·obtain⟨qq,hqq⟩:∃qq,qq=i+j:=⟨_,rfl⟩
     have v3:IntKind.i64.wrap ((i:Int)+(j:Int))=(qq:Int):=by rw[wrap64_in _ (by omega) (by omega)];omega
     have v4:=eT qq (by omega)
     obtain⟨h,hh⟩:∃h,h=qq/2:=⟨_,rfl⟩
     rw[←hh]at v4
     have hpc:m≤p-h∧p-h<b∧h<m∧a≤h:=by omega
     obtain⟨pc,hpc2⟩:∃pc,pc=p-h:=⟨_,rfl⟩
     have v5:IntKind.i64.wrap ((p:Int)-(h:Int))=(pc:Int):=by rw[wrap64_in _ (by omega) (by omega)];omega
     obtain⟨x,hx⟩:∃x,X[h-a]?=some x:=⟨_,List.getElem?_eq_getElem (show h-a<X.length by omega)⟩
     obtain⟨y,hy⟩:∃y,Y[pc-m]?=some y:=⟨_,List.getElem?_eq_getElem (show pc-m<Y.length by omega)⟩
     have gx:=aC (hLX _ _ hx)
     rw[show a+(h-a)=h by omega]at gx
     have gy:=aC (hLY _ _ hy)
     rw[show m+(pc-m)=pc by omega]at gy
     have hd:=hcE y x
     simp only[ak.enc]at gx gy
     try simp only[ak.enc,List.map_cons,List.map_nil]at hd
     have hln:h<n:=by omega
     have hpn:pc<n:=by omega
     simp -implicitDefEqProofs only[↓reduceIte,go_sem,Nat.reduceLT,Nat.reduceEqDiff,Int.reduceLE,t20,t21,eq_true hlt,v3,v4]
     refine aQ K.mixed (by kernel_rfl) ?_
     simp -implicitDefEqProofs only[↓reduceIte,go_sem,ab,Nat.reduceAdd,Nat.reduceLT,Nat.reduceEqDiff,reduceCtorEq,t0,t4,t22,gh,gx,gy,hln,hpn,v5]
     refine ae.ok hd ?_
     by_cases hcc:c y x<0
     ·simp -implicitDefEqProofs only[↓reduceIte,go_sem,Nat.reduceLT,Nat.reduceEqDiff,hcc]
      refine⟨_,_,(i,h),al.refl _ _,⟨rfl,hi0,by simp only;omega,by simp only;omega,hlo,.inr ⟨x,y,hx,by rw[←hpc2];exact hy,by simp[aN,hcc]⟩,?_⟩,by simp only;omega⟩
      simp -implicitDefEqProofs only[↓reduceIte,go_sem,Nat.reduceLT,Nat.reduceEqDiff,reduceCtorEq,t0,t1,t2,t3,t4,t18,t19,t20,t22]
     ·have v6:IntKind.i64.wrap ((h:Int)+1)=(h:Int)+1:=wrap64_in _ (by omega) (by omega)
      simp -implicitDefEqProofs only[↓reduceIte,go_sem,Nat.reduceLT,Nat.reduceEqDiff,hcc,v6]
      refine⟨_,_,(h+1,j),al.refl _ _,⟨rfl,by simp only;omega,by simp only;omega,hj0,.inr ⟨x,y,by simpa using hx,by rw[show n0-(h+1)-m=pc-m by omega];exact hy,by simp[aN,hcc]⟩,hhi,?_⟩,by simp only;omega⟩
      simp -implicitDefEqProofs only[↓reduceIte,go_sem,Nat.reduceLT,Nat.reduceEqDiff,reduceCtorEq,t0,t1,t2,t3,t4,t18,t19,t21,t22]
    ·obtain rfl:j=i:=by omega
     simp -implicitDefEqProofs only[↓reduceIte,go_sem,Nat.reduceLT,Nat.reduceEqDiff,reduceCtorEq,t20,t21,Nat.lt_irrefl]
     exact⟨⟨j,hi0,hj0,hlo,hhi,rfl⟩,t0,t1,t2,t3,t4,t18,t19⟩
  ·rintro s H1 ⟨rfl,⟨st,hst0,hst1,hlo,hhi,t20⟩,t0,t1,t2,t3,t4,t18,t19⟩
   clear w6
   obtain⟨e,he⟩:∃e,e=n0-st:=⟨_,rfl⟩
   obtain⟨sX,hsX⟩:∃sX,sX=st-a:=⟨_,rfl⟩
   obtain⟨eY,heY⟩:∃eY,eY=e-m:=⟨_,rfl⟩
   have w8:IntKind.i64.wrap ((n0:Int)-(st:Int))=(e:Int):=by rw[wrap64_in _ (by omega) (by omega)];omega
   have b1:sX≤X.length∧eY≤Y.length∧m≤e∧e≤b∧mid=st+eY∧e=mid+(m-st):=by omega
   have hcut:=St.lT ho hX hY (s:=sX) (e:=eY) b1.1 b1.2.1 ?_ ?_
   rotate_left
   ·rcases hhi with h|⟨x,y,hx,hy,h⟩
    ·rcases a3 with h3|h3
     ·exact .inl (by omega)
     ·exact .inr (.inl (by omega))
    ·exact .inr (.inr ⟨x,y,by rw[hsX];exact hx,by rw[show eY-1=p-st-m by omega];exact hy,h⟩)
   ·rcases hlo with h|⟨x,y,hx,hy,h⟩
    ·rcases a4 with h4|h4
     ·exact .inl (by omega)
     ·exact .inr (.inl (by omega))
    ·exact .inr (.inr ⟨x,y,by rw[show sX-1=st-1-a by omega];exact hx,by rw[show eY=n0-st-m by omega];exact hy,h⟩)
   have hXs:=hX
   have hYs:=hY
   have eX:X.take sX++X.drop sX=X:=List.take_append_drop _ _
   have eY':Y.take eY++Y.drop eY=Y:=List.take_append_drop _ _
   have lA:(X.take sX).length=sX:=by rw[List.length_take];omega
   have lU:(X.drop sX).length=X.length-sX:=List.length_drop
   have lV:(Y.take eY).length=eY:=by rw[List.length_take];omega
   have lB:(Y.drop eY).length=Y.length-eY:=List.length_drop
   rw[←eX]at hXs
   rw[←eY']at hYs
   have sA:=hXs.left
   have sU:=hXs.right
   have sV:=hYs.left
   have sB:=hYs.right
   clear hXs hYs hlo hhi a3 a4
   generalize hA:X.take sX=A at*
   generalize hU:X.drop sX=U at*
   generalize hV:Y.take eY=V at*
   generalize hB:Y.drop eY=B at*
   have hLL:L=P++A++U++V++(B++Q):=by rw[hL,←eX,←eY'];simp
   obtain⟨L1,hL1⟩:∃L1,L1=P++A++V++U++(B++Q):=⟨_,rfl⟩
   obtain⟨L2,hL2⟩:∃L2,L2=P++St.aD (aN c) (A++V)++U++B++Q:=⟨_,rfl⟩
   have hL3:L'=P++St.aD (aN c) (A++V)++St.aD (aN c) (U++B)++Q:=by rw[hL',←hcut];simp
   have n1:L1.length=n:=by rw[←hn,hLL,hL1];simp;omega
   have n2:L2.length=n:=by rw[←hn,hLL,hL2];simp[St.aP];omega
   rw[dC]
   refine fX (fun s H2=>H2=aH H id ver L∧s 0= .sl id ver 0 n∧s 1=iA a∧s 2=iA m∧s 3=iA b∧s 4= .fn g caps∧s 18=iA mid∧s 20=iA st∧s 24=iA e) rfl (by simp -implicitDefEqProofs only[↓reduceIte,go_sem,Nat.reduceLT,Nat.reduceEqDiff,reduceCtorEq,t0,t1,t2,t3,t4,t18,t19,t20,w8,hE0]) ?_
   rintro s H2 ⟨rfl,t0,t1,t2,t3,t4,t18,t20,t24⟩
   rw[dC]
   refine fX (fun s H2=>H2=aH H id ver L1∧s 0= .sl id ver 0 n∧s 1=iA a∧s 2=iA m∧s 3=iA b∧s 4= .fn g caps∧s 18=iA mid∧s 20=iA st∧s 24=iA e) rfl ?_ ?_
   ·have same:U=[]∨V=[]→aH H id ver L=aH H id ver L1:=fun h=>by
     rw[hL1,hLL];rcases h with rfl|rfl<;>simp
    by_cases c1:st<m
    ·by_cases c2:m<e
     ·simp -implicitDefEqProofs only[↓reduceIte,go_sem,Nat.reduceLT,Nat.reduceEqDiff,reduceCtorEq,t2,t20,t24,eq_true c1,eq_true c2]
      simp -implicitDefEqProofs only[go_sem,t0,t4]
      refine ae.ok (jI H id ver hid g caps (P++A) U V (B++Q) L L1 hLL (by rw[hL1]) st m e n (by simp;omega) (by simp;omega) (by simp;omega) (by omega) (by omega) hn hbig) ?_
      simp -implicitDefEqProofs only[↓reduceIte,go_sem,Nat.reduceEqDiff,reduceCtorEq,t0,t1,t2,t3,t4,t18,t20,t24]
     ·simp -implicitDefEqProofs only[↓reduceIte,go_sem,Nat.reduceLT,Nat.reduceEqDiff,reduceCtorEq,t2,t20,t24,eq_true c1,eq_false c2]
      simp -implicitDefEqProofs only[go_sem,t0,t1,t3,t4,t18]
      exact same (.inr (List.eq_nil_of_length_eq_zero (by omega)))
    ·simp -implicitDefEqProofs only[↓reduceIte,go_sem,Nat.reduceLT,Nat.reduceEqDiff,reduceCtorEq,t2,t20,t24,eq_false c1]
     simp -implicitDefEqProofs only[go_sem,t0,t1,t3,t4,t18]
     exact same (.inl (List.eq_nil_of_length_eq_zero (by omega)))
   rintro s H2 ⟨rfl,t0,t1,t2,t3,t4,t18,t20,t24⟩
   rw[dC]
   refine fX (fun s H2=>H2=aH H id ver L2∧s 0= .sl id ver 0 n∧s 3=iA b∧s 4= .fn g caps∧s 18=iA mid∧s 24=iA e) rfl ?_ ?_
   ·have same:A=[]∨V=[]→aH H id ver L1=aH H id ver L2:=fun h=>by
     have:St.aD (aN c) (A++V)=A++V:=by
      rcases h with rfl|rfl
      ·simpa using St.cr ho sV
      ·simpa using St.cr ho sA
     rw[hL1,hL2,this];simp
    by_cases c1:a<st
    ·by_cases c2:st<mid
     ·simp -implicitDefEqProofs only[↓reduceIte,go_sem,Nat.reduceLT,Nat.reduceEqDiff,reduceCtorEq,t1,t18,t20,eq_true c1,eq_true c2]
      simp -implicitDefEqProofs only[go_sem,t0,t4]
      refine ae.ok (ih P A V (U++(B++Q)) L1 L2 a st mid (by omega) (by rw[hL1];simp) (by rw[hL2];simp) ha (by omega) (by omega) (by omega) (by omega) sA sV n1) ?_
      simp -implicitDefEqProofs only[↓reduceIte,go_sem,Nat.reduceEqDiff,reduceCtorEq,t0,t3,t4,t18,t24]
     ·simp -implicitDefEqProofs only[↓reduceIte,go_sem,Nat.reduceLT,Nat.reduceEqDiff,reduceCtorEq,t1,t18,t20,eq_true c1,eq_false c2]
      simp -implicitDefEqProofs only[go_sem,t0,t3,t4,t24]
      exact same (.inr (List.eq_nil_of_length_eq_zero (by omega)))
    ·simp -implicitDefEqProofs only[↓reduceIte,go_sem,Nat.reduceLT,Nat.reduceEqDiff,reduceCtorEq,t1,t18,t20,eq_false c1]
     simp -implicitDefEqProofs only[go_sem,t0,t3,t4,t24]
     exact same (.inl (List.eq_nil_of_length_eq_zero (by omega)))
   rintro s H2 ⟨rfl,t0,t3,t4,t18,t24⟩
   have same:U=[]∨B=[]→aH H id ver L2=aH H id ver L':=fun h=>by
    have:St.aD (aN c) (U++B)=U++B:=by
     rcases h with rfl|rfl
     ·simpa using St.cr ho sB
     ·simpa using St.cr ho sU
    rw[hL2,hL3,this];simp
   by_cases c1:mid<e
   ·by_cases c2:e<b
    ·simp -implicitDefEqProofs only[↓reduceIte,go_sem,Nat.reduceLT,Nat.reduceEqDiff,reduceCtorEq,t3,t18,t24,eq_true c1,eq_true c2]
     simp -implicitDefEqProofs only[go_sem,t0,t4]
     have lS:=St.aP (lt:=aN c) (A++V)
     rw[List.length_append]at lS
     refine ae.ok (ih (P++St.aD (aN c) (A++V)) U B Q L2 L' mid e b (by omega) (by rw[hL2]) (by rw[hL3]) (by simp;omega) (by simp;omega) (by simp;omega) (by omega) (by omega) sU sB n2) ?_
     simp -implicitDefEqProofs only[go_sem]
     exact⟨_,al.refl _ _,rfl⟩
    ·simp -implicitDefEqProofs only[↓reduceIte,go_sem,Nat.reduceLT,Nat.reduceEqDiff,t3,t18,t24,eq_true c1,eq_false c2]
     rw[same (.inr (List.eq_nil_of_length_eq_zero (by omega)))]
     exact⟨_,al.refl _ _,rfl⟩
   ·simp -implicitDefEqProofs only[↓reduceIte,go_sem,Nat.reduceLT,Nat.reduceEqDiff,reduceCtorEq,t18,t24,eq_false c1]
    rw[same (.inl (List.eq_nil_of_length_eq_zero (by omega)))]
    exact⟨_,al.refl _ _,rfl⟩
end SV
end Go.Proofs.YtfklokhopcmloaaGreat
namespace Go.Proofs.YtfklokhopcmloaaGreat
open Go.Proofs.YtfklokhopcmloaaGreatAw Go.RowKit
namespace SV
theorem dy(H:aa)(id ver:Nat)(hid:id<H.length)(g:FuncId)(caps:List AV)(c:ak→ak→Int)(ho:St.Ord (aN c))(hc:dV g caps c H id)(n:Nat)(hbig:n≤1000000000000):∀(N:Nat) (P X Y Q L L':List ak) (a m b:Nat),X.length+Y.length≤N→
  L=P++X++Y++Q→L'=P++St.aD (aN c) (X++Y)++Q→P.length=a→P.length+X.length=m→P.length+X.length+Y.length=b→0<X.length→0<Y.length→St.aq (aN c) X→St.aq (aN c) Y→L.length=n→
  ag Tryz.prog 190 [.sl id ver 0 n,iA a,iA m,iA b,.fn g caps] (aH H id ver L) (.ok (.aZ [])) (aH H id ver L'):=by
 intro N
 induction N with
 |zero=>intros;omega
 |succ N ih=>
  intro P X Y Q L L' a m b hN hL hL' ha hm hb hX0 hY0 hX hY hn
  by_cases h1:X.length=1
  ·exact lZ H id ver hid g caps c ho hc n hbig P X Y Q L L' a m b hL hL' ha hm hb hX0 hY0 hX hY hn h1
  ·by_cases h2:Y.length=1
   ·exact lC H id ver hid g caps c ho hc n hbig P X Y Q L L' a m b hL hL' ha hm hb hX0 hY0 hX hY hn h1 h2
   ·exact mg H id ver hid g caps c ho hc n hbig P X Y Q L L' a m b hL hL' ha hm hb hX0 hY0 hX hY hn h1 h2 fun P' X' Y' Q' L1 L2 a' m' b' hlt=>ih P' X' Y' Q' L1 L2 a' m' b' (by omega)
theorem jk(H:aa)(id ver:Nat)(hid:id<H.length)(g:FuncId)(caps:List AV)(c:ak→ak→Int)(ho:St.Ord (aN c))(hc:dV g caps c H id)(n:Nat)(hbig:n≤100000000000)(L:List ak)(hn:L.length=n):
  ag Tryz.prog 186 [.sl id ver 0 n,iA n,.fn g caps] (aH H id ver L) (.ok (.aZ [])) (aH H id ver (St.aD (aN c) L)):=by
 generalize hE0:aH H id ver L=E0
 generalize hE1:aH H id ver (St.aD (aN c) L)=E1
 refine ag.aj (hint:=(fun _=>false)) Tryz.func186 (by kernel_rfl) rfl [] (by kernel_rfl) (by decide) (by simp[Tryz.ntmps186]) ?_
 rw[Tryz.ntmps186]
 simp -implicitDefEqProofs only[↓reduceIte,go_sem,Nat.reduceLT,Nat.reduceEqDiff]
 refine fJ (fun s H'=>(∃Lk,H'=aH H id ver Lk∧St.bq (aN c) Lk L∧Lk.length=n∧(∃k,k* 20≤n∧n<(k+1)* 20∧(∀j,j<k→St.aq (aN c) (St.eD 20 j Lk))∧s 7=iA ((k* 20:Nat):Int)))∧s 0= .sl id ver 0 n∧s 1=iA n∧s 2= .fn g caps∧s 6=iA 20) rfl ?_ ?_
 ·refine bk _ _ _ _ (fun(k:Nat) s H'=>k* 20≤n∧(∃Lk,H'=aH H id ver Lk∧St.bq (aN c) Lk L∧Lk.length=n∧∀j,j<k→St.aq (aN c) (St.eD 20 j Lk))∧s 0= .sl id ver 0 n∧s 1=iA n∧s 2= .fn g caps∧s 6=iA 20∧s 7=iA ((k* 20:Nat):Int)∧s 8=iA (((k+1)* 20:Nat):Int)) (fun k=>n-k) 0 (al.refl _ _) ?_ ?_
  ·refine⟨by omega,⟨L,hE0.symm,.refl _,hn,fun j hj=>by omega⟩,?_⟩
   simp -implicitDefEqProofs only[↓reduceIte,go_sem,Nat.reduceLT,Nat.reduceEqDiff,reduceCtorEq]
  ·rintro k s H' ⟨hk,⟨Lk,rfl,hst,hlen,hso⟩,t0,t1,t2,t6,t7,t8⟩
   obtain⟨a,ha⟩:∃a,a=k* 20:=⟨_,rfl⟩
   obtain⟨b,hb⟩:∃b,b=(k+1)* 20:=⟨_,rfl⟩
   rw[←ha]at t7
   rw[←hb]at t8
   by_cases hbn:b≤n
   ·obtain⟨P,hP⟩:∃P,P=Lk.take a:=⟨_,rfl⟩
    obtain⟨X,hX⟩:∃X,X=(Lk.drop a).take 20:=⟨_,rfl⟩
    obtain⟨Q,hQ⟩:∃Q,Q=Lk.drop (a+20):=⟨_,rfl⟩
    have hc3:Lk=P++X++Q:=by rw[hP,hX,hQ,St.D0]
    have lP:P.length=a:=by rw[hP,List.length_take];omega
    have lX:X.length=20:=by rw[hX,List.length_take,List.length_drop];omega
    obtain⟨L1,hL1⟩:∃L1,L1=P++St.aD (aN c) X++Q:=⟨_,rfl⟩
    have lL1:L1.length=n:=by rw[hL1,←hlen,hc3];simp[St.aP]
    have hso1:∀j,j<k+1→St.aq (aN c) (St.eD 20 j L1):=by
     rw[hL1];exact St.eF ho (by omega) (by rw[←hc3];exact hso) (.inl lX)
    have hst1:St.bq (aN c) L1 L:=by
     refine St.bq.trans ?_ hst
     rw[hL1,hc3];exact St.dL ho P X Q
    have w1:IntKind.i64.wrap ((b:Int)+20)=(((k+1+1)* 20:Nat):Int):=by rw[wrap64_in _ (by omega) (by omega)];omega
    obtain⟨b2,hb2⟩:∃b2,b2=(k+1+1)* 20:=⟨_,rfl⟩
    rw[←hb2]at w1
    simp -implicitDefEqProofs only[↓reduceIte,go_sem,Nat.reduceLT,Nat.reduceEqDiff,reduceCtorEq,t1,t8,eq_true hbn]
    simp -implicitDefEqProofs only[go_sem,t0,t2,t7]
    refine ae.ok (ed H id ver hid g caps c ho hc P X Q Lk L1 hc3 hL1 a b n lP (by omega) hlen (by omega)) ?_
    simp -implicitDefEqProofs only[↓reduceIte,go_sem,Nat.reduceLT,Nat.reduceEqDiff,t6,t8,w1]
    refine⟨_,_,k+1,al.refl _ _,⟨by omega,⟨L1,rfl,hst1,lL1,hso1⟩,?_⟩,by omega⟩
    rw[←hb,←hb2]
    simp -implicitDefEqProofs only[↓reduceIte,go_sem,Nat.reduceLT,Nat.reduceEqDiff,reduceCtorEq,t0,t1,t2,t6]
   ·simp -implicitDefEqProofs only[↓reduceIte,go_sem,Nat.reduceLT,Nat.reduceEqDiff,reduceCtorEq,t1,t8,eq_false hbn]
    refine⟨⟨Lk,rfl,hst,hlen,k,by omega,by omega,hso,?_⟩,?_⟩
    ·rw[←ha];simp -implicitDefEqProofs only[go_sem,t7]
    ·simp -implicitDefEqProofs only[go_sem,t0,t2,t6]
 rintro s H' ⟨⟨Lk,rfl,hst,hlen,k,hk1,hk2,hso,t7⟩,t0,t1,t2,t6⟩
 obtain⟨a,ha⟩:∃a,a=k* 20:=⟨_,rfl⟩
 rw[←ha]at t7
 have hc3:Lk=Lk.take a++Lk.drop a++[]:=by simp
 obtain⟨L1,hL1⟩:∃L1,L1=Lk.take a++St.aD (aN c) (Lk.drop a)++[]:=⟨_,rfl⟩
 have lP:(Lk.take a).length=a:=by rw[List.length_take];omega
 have lX:(Lk.drop a).length=n-a:=by rw[List.length_drop];omega
 have lL1:L1.length=n:=by rw[hL1];simp only[List.length_append,St.aP,lP,lX,List.length_nil];omega
 have hst1:St.bq (aN c) L1 L:=by
  refine St.bq.trans ?_ hst
  rw[hL1]
  have:=St.dL ho (Lk.take a) (Lk.drop a) []
  rwa[←hc3]at this
 have hb1:∀j,St.aq (aN c) (St.eD 20 j L1):=by
  intro j
  rcases Nat.lt_or_ge j (k+1)with h|h
  ·rw[hL1]
   exact St.eF ho (by omega) (by rw[←hc3];exact hso) (.inr ⟨by omega,rfl⟩) j h
  ·have:=Nat.mul_le_mul_right 20 h
   rw[St.m4 (by omega)]
   exact List.Pairwise.nil
 simp -implicitDefEqProofs only[↓reduceIte,go_sem,Nat.reduceLT,Nat.reduceEqDiff,t0,t1,t2,t7]
 refine ae.ok (ed H id ver hid g caps c ho hc _ _ _ Lk L1 hc3 hL1 a n n lP (by omega) hlen (by omega)) ?_
 clear hc3 hL1 lP lX hst hso hlen
 simp -implicitDefEqProofs only[go_sem]
 refine bk _ _ _ _ (fun(z:Nat) s H'=>20≤z∧z≤2* n+20∧(∃Lk,H'=aH H id ver Lk∧St.bq (aN c) Lk L∧Lk.length=n∧∀j,St.aq (aN c) (St.eD z j Lk))∧s 0= .sl id ver 0 n∧s 1=iA n∧s 2= .fn g caps∧s 6=iA z) (fun z=>n-z) 20 (al.refl _ _) ?_ ?_
 ·refine⟨Nat.le_refl _,by omega,⟨L1,rfl,hst1,lL1,hb1⟩,?_⟩
  simp -implicitDefEqProofs only[↓reduceIte,go_sem,Nat.reduceEqDiff,reduceCtorEq,t0,t1,t2,t6]
 clear hb1 hst1 lL1 t0 t1 t2 t6 t7 hk1 hk2 ha
 rintro z s H' ⟨hz1,hz2,⟨Lk,rfl,hst,hlen,hbl⟩,t0,t1,t2,t6⟩
 by_cases hzn:z<n
 ·have w1:IntKind.i64.wrap (2* (z:Int))=((2* z:Nat):Int):=by rw[wrap64_in _ (by omega) (by omega)];omega
  have w1':IntKind.i64.wrap ((z:Int)* 2)=((2* z:Nat):Int):=by rw[wrap64_in _ (by omega) (by omega)];omega
  obtain⟨y,hy⟩:∃y,y=2* z:=⟨_,rfl⟩
  rw[←hy]at w1 w1'
  simp -implicitDefEqProofs only[↓reduceIte,go_sem,Nat.reduceLT,Nat.reduceEqDiff,t1,t6,eq_true hzn,w1]
  refine fJ (fun s H'=>(∃Lk,H'=aH H id ver Lk∧St.bq (aN c) Lk L∧Lk.length=n∧∃k a,a=k* y∧a=2* k* z∧a≤n∧n<a+y∧(∀j,j<k→St.aq (aN c) (St.eD y j Lk))∧(∀j,2* k≤j→St.aq (aN c) (St.eD z j Lk))∧s 7=iA a)∧s 0= .sl id ver 0 n∧s 1=iA n∧s 2= .fn g caps∧s 6=iA z) rfl ?_ ?_
  ·refine bk _ _ _ _ (fun(k:Nat) s H'=>(∃a,a=k* y∧a=2* k* z∧a≤n∧s 7=iA a∧s 8=iA ((a+y:Nat):Int))∧(∃Lk,H'=aH H id ver Lk∧St.bq (aN c) Lk L∧Lk.length=n∧(∀j,j<k→St.aq (aN c) (St.eD y j Lk))∧(∀j,2* k≤j→St.aq (aN c) (St.eD z j Lk)))∧s 0= .sl id ver 0 n∧s 1=iA n∧s 2= .fn g caps∧s 6=iA z) (fun k=>n+1-k* y) 0 (al.refl _ _) ?_ ?_
   ·refine⟨⟨0,by omega,by omega,by omega,?_⟩,⟨Lk,rfl,hst,hlen,fun j hj=>by omega,fun j _=>hbl j⟩,?_⟩
    ·simp -implicitDefEqProofs only[↓reduceIte,go_sem,Nat.reduceLT,Nat.reduceEqDiff,Nat.zero_add]
    ·simp -implicitDefEqProofs only[↓reduceIte,go_sem,Nat.reduceEqDiff,reduceCtorEq,t0,t1,t2,t6]
   clear hst hlen hbl Lk t0 t1 t2 t6
   rintro k s H' ⟨⟨a,ha,ha2,han,t7,t8⟩,⟨Lk,rfl,hst,hlen,hso,hso2⟩,t0,t1,t2,t6⟩
   obtain⟨b,hb⟩:∃b,b=a+y:=⟨_,rfl⟩
   rw[←hb]at t8
   have hk1:(k+1)* y=a+y:=by rw[Nat.add_mul,←ha,Nat.one_mul]
   have hk2:2* (k+1)* z=a+2* z:=by rw[Nat.mul_add,Nat.add_mul,←ha2]
   have hk3:(2* k+1)* z=a+z:=by rw[Nat.add_mul,←ha2,Nat.one_mul]
   by_cases hbn:b≤n
   ·obtain⟨P,hP⟩:∃P,P=Lk.take a:=⟨_,rfl⟩
    obtain⟨X,hX⟩:∃X,X=(Lk.drop a).take z:=⟨_,rfl⟩
    obtain⟨Y,hY⟩:∃Y,Y=(Lk.drop (a+z)).take z:=⟨_,rfl⟩
    obtain⟨Q,hQ⟩:∃Q,Q=Lk.drop (a+z+z):=⟨_,rfl⟩
    have hc4:Lk=P++X++Y++Q:=by rw[hP,hX,hY,hQ,St.Dh]
    have hc5:Lk=P++(X++Y)++Q:=by rw[hc4];simp
    have lP:P.length=a:=by rw[hP,List.length_take];omega
    have lX:X.length=z:=by rw[hX,List.length_take,List.length_drop];omega
    have lY:Y.length=z:=by rw[hY,List.length_take,List.length_drop];omega
    have lXY:(X++Y).length=y:=by rw[List.length_append];omega
    have sX:St.aq (aN c) X:=by have:=hso2 (2* k) (Nat.le_refl _);rw[St.eD,←ha2,←hX]at this;exact this
    have sY:St.aq (aN c) Y:=by have:=hso2 (2* k+1) (by omega);rw[St.eD,hk3,←hY]at this;exact this
    obtain⟨L1,hL1⟩:∃L1,L1=P++St.aD (aN c) (X++Y)++Q:=⟨_,rfl⟩
    have lL1:L1.length=n:=by rw[hL1,←hlen,hc5];simp[St.aP];try omega
    have hst1:St.bq (aN c) L1 L:=by
     refine St.bq.trans ?_ hst
     rw[hL1,hc5];exact St.dL ho P (X++Y) Q
    have hso1:∀j,j<k+1→St.aq (aN c) (St.eD y j L1):=by
     rw[hL1];exact St.eF ho (by omega) (by rw[←hc5];exact hso) (.inl lXY)
    have hso3:∀j,2* (k+1)≤j→St.aq (aN c) (St.eD z j L1):=fun j hj=>by
     have h1:=Nat.mul_le_mul_right z hj
     rw[hL1,St.nV (X':=X++Y) (St.aP _) (by rw[St.aP,lXY,lP];omega),←hc5]
     exact hso2 j (by omega)
    clear hP hX hY hQ hst hso hso2
    obtain⟨m,hm⟩:∃m,m=a+z:=⟨_,rfl⟩
    obtain⟨b2,hb2⟩:∃b2,b2=b+y:=⟨_,rfl⟩
    have w2:IntKind.i64.wrap ((a:Int)+(z:Int))=(m:Int):=by rw[wrap64_in _ (by omega) (by omega)];omega
    have w3:IntKind.i64.wrap ((b:Int)+(y:Int))=(b2:Int):=by rw[wrap64_in _ (by omega) (by omega)];omega
    simp -implicitDefEqProofs only[↓reduceIte,go_sem,Nat.reduceLT,Nat.reduceEqDiff,reduceCtorEq,t1,t8,eq_true hbn]
    simp -implicitDefEqProofs only[↓reduceIte,go_sem,Nat.reduceLT,Nat.reduceEqDiff,t0,t2,t6,t7,t8,w2]
    refine ae.ok (dy H id ver hid g caps c ho hc n (by omega) _ P X Y Q Lk L1 a m b (Nat.le_refl _) hc4 hL1 lP (by omega) (by omega) (by omega) (by omega) sX sY hlen) ?_
    simp -implicitDefEqProofs only[↓reduceIte,go_sem,Nat.reduceLT,Nat.reduceEqDiff,t6,t8,w1,w3]
    refine⟨_,_,k+1,al.refl _ _,⟨⟨b,by omega,by omega,hbn,?_⟩,⟨L1,rfl,hst1,lL1,hso1,hso3⟩,?_⟩,by omega⟩
    ·simp -implicitDefEqProofs only[↓reduceIte,go_sem,Nat.reduceLT,Nat.reduceEqDiff,show((b:Int)+(y:Int))=(b2:Int) by omega]
    ·simp -implicitDefEqProofs only[↓reduceIte,go_sem,Nat.reduceEqDiff,reduceCtorEq,t0,t1,t2,t6]
   ·simp -implicitDefEqProofs only[↓reduceIte,go_sem,Nat.reduceLT,Nat.reduceEqDiff,reduceCtorEq,t1,t8,eq_false hbn]
    refine⟨⟨Lk,rfl,hst,hlen,k,a,ha,ha2,han,by omega,hso,hso2,?_⟩,?_⟩
    ·simp -implicitDefEqProofs only[go_sem,t7]
    ·simp -implicitDefEqProofs only[go_sem,t0,t2,t6]
  clear hst hlen hbl Lk t0 t1 t2 t6
  rintro s H' ⟨⟨Lk,rfl,hst,hlen,k,a,ha,ha2,han,hna,hso,hso2,t7⟩,t0,t1,t2,t6⟩
  have hk3:(2* k+1)* z=a+z:=by rw[Nat.add_mul,←ha2,Nat.one_mul]
  have hk1:(k+1)* y=a+y:=by rw[Nat.add_mul,←ha,Nat.one_mul]
  obtain⟨m,hm⟩:∃m,m=a+z:=⟨_,rfl⟩
  have w2:IntKind.i64.wrap ((a:Int)+(z:Int))=(m:Int):=by rw[wrap64_in _ (by omega) (by omega)];omega
  have all:∀L1:List ak,L1.length=n→(∀j,j<k+1→St.aq (aN c) (St.eD y j L1))→∀j,St.aq (aN c) (St.eD y j L1):=fun L1 hl h j=>by
   rcases Nat.lt_or_ge j (k+1)with h1|h1
   ·exact h j h1
   ·have:=Nat.mul_le_mul_right y h1
    rw[St.m4 (by omega)]
    exact List.Pairwise.nil
  by_cases hmn:m<n
  ·obtain⟨P,hP⟩:∃P,P=Lk.take a:=⟨_,rfl⟩
   obtain⟨X,hX⟩:∃X,X=(Lk.drop a).take z:=⟨_,rfl⟩
   obtain⟨Y,hY⟩:∃Y,Y=(Lk.drop (a+z)).take z:=⟨_,rfl⟩
   have hQ:Lk.drop (a+z+z)=[]:=List.drop_of_length_le (by omega)
   have hc4:Lk=P++X++Y++[]:=by rw[hP,hX,hY,←hQ,St.Dh]
   have hc5:Lk=P++(X++Y)++[]:=by rw[hc4];simp
   have lP:P.length=a:=by rw[hP,List.length_take];omega
   have lX:X.length=z:=by rw[hX,List.length_take,List.length_drop];omega
   have lY:Y.length=n-m:=by rw[hY,List.length_take,List.length_drop];omega
   have lXY:(X++Y).length≤y:=by rw[List.length_append];omega
   have sX:St.aq (aN c) X:=by have:=hso2 (2* k) (Nat.le_refl _);rw[St.eD,←ha2,←hX]at this;exact this
   have sY:St.aq (aN c) Y:=by have:=hso2 (2* k+1) (by omega);rw[St.eD,hk3,←hY]at this;exact this
   obtain⟨L1,hL1⟩:∃L1,L1=P++St.aD (aN c) (X++Y)++[]:=⟨_,rfl⟩
   have lL1:L1.length=n:=by rw[hL1,←hlen,hc5];simp[St.aP];try omega
   have hst1:St.bq (aN c) L1 L:=by
    refine St.bq.trans ?_ hst
    rw[hL1]
    have:=St.dL ho P (X++Y) []
    rwa[←hc5]at this
   have hso1:∀j,j<k+1→St.aq (aN c) (St.eD y j L1):=by
    rw[hL1];exact St.eF ho (by omega) (by rw[←hc5];exact hso) (.inr ⟨lXY,rfl⟩)
   clear hP hX hY hQ hst hso hso2
   simp -implicitDefEqProofs only[↓reduceIte,go_sem,Nat.reduceLT,Nat.reduceEqDiff,reduceCtorEq,t1,t6,t7,w2,eq_true hmn]
   simp -implicitDefEqProofs only[go_sem,t0,t2]
   refine ae.ok (dy H id ver hid g caps c ho hc n (by omega) _ P X Y [] Lk L1 a m n (Nat.le_refl _) hc4 hL1 lP (by omega) (by omega) (by omega) (by omega) sX sY hlen) ?_
   simp -implicitDefEqProofs only[↓reduceIte,go_sem,Nat.reduceLT,Nat.reduceEqDiff,t6,w1']
   refine⟨_,_,y,al.refl _ _,⟨by omega,by omega,⟨L1,rfl,hst1,lL1,all L1 lL1 hso1⟩,?_⟩,by omega⟩
   simp -implicitDefEqProofs only[↓reduceIte,go_sem,Nat.reduceLT,Nat.reduceEqDiff,reduceCtorEq,t0,t1,t2]
  ·have hso1:∀j,j<k+1→St.aq (aN c) (St.eD y j Lk):=fun j hj=>by
    rcases Nat.lt_or_ge j k with h|h
    ·exact hso j h
    ·obtain rfl:j=k:=by omega
     have h1:=hso2 (2* j) (Nat.le_refl _)
     unfold St.eD at h1⊢
     rw[←ha2,List.take_of_length_le (by rw[List.length_drop];omega)]at h1
     rw[←ha,List.take_of_length_le (by rw[List.length_drop];omega)]
     exact h1
   simp -implicitDefEqProofs only[↓reduceIte,go_sem,Nat.reduceLT,Nat.reduceEqDiff,t1,t6,t7,w2,eq_false hmn,w1']
   refine⟨_,_,y,al.refl _ _,⟨by omega,by omega,⟨Lk,rfl,hst,hlen,all Lk hlen hso1⟩,?_⟩,by omega⟩
   simp -implicitDefEqProofs only[↓reduceIte,go_sem,Nat.reduceLT,Nat.reduceEqDiff,reduceCtorEq,t0,t1,t2]
 ·simp -implicitDefEqProofs only[↓reduceIte,go_sem,Nat.reduceLT,Nat.reduceEqDiff,t1,t6,eq_false hzn]
  have h0:=hbl 0
  unfold St.eD at h0
  rw[Nat.zero_mul,List.drop_zero,List.take_of_length_le (by omega)]at h0
  rw[←hE1,St.jv ho h0 hst]
  exact⟨_,al.refl _ _,rfl⟩
theorem mb(H:aa)(id ver:Nat)(hid:id<H.length)(g:FuncId)(caps:List AV)(c:ak→ak→Int)(ho:St.Ord (aN c))(hc:dV g caps c H id)(n:Nat)(hbig:n≤100000000000)(L:List ak)(hn:L.length=n):
  ag Tryz.prog 170 [.sl id ver 0 n,.fn g caps] (aH H id ver L) (.ok (.aZ [])) (aH H id ver (St.aD (aN c) L)):=by
 have gh:=ca hid ver L
 have hs:=jk H id ver hid g caps c ho hc n hbig L hn
 generalize aH H id ver L=E0 at*
 refine ag.aj (hint:=(fun _=>false)) Tryz.func170 (by kernel_rfl) rfl [] (by kernel_rfl) (by decide) (by simp[Tryz.ntmps170]) ?_
 rw[Tryz.ntmps170]
 simp -implicitDefEqProofs only[↓reduceIte,go_sem,Nat.reduceLT,Nat.reduceEqDiff,reduceCtorEq,gh]
 refine ae.ok hs ?_
 simp -implicitDefEqProofs only[go_sem]
 exact⟨_,al.refl _ _,rfl⟩
end SV
end Go.Proofs.YtfklokhopcmloaaGreat
namespace Go.Proofs.YtfklokhopcmloaaGreat
open Go.Proofs.YtfklokhopcmloaaGreatAw Go.RowKit
namespace SV
def IX(g:FuncId)(caps:List AV)(c:ak→ak→Bool)(H:aa)(id:Nat):Prop:=∀(o:az) (x y:ak),ag Tryz.prog g ([.agg ((ak.enc x).map .d),.agg ((ak.enc y).map .d)]++caps) (H.set id o) (.ok (bA (c x y))) (H.set id o)
def oF:List D:=[iD 0,iD 0,.v (.string ⟨#[]⟩)]
def gF(H:aa)(id ver:Nat)(c:ak→ak→Bool)(L:List ak):aa:=H.set id (.arr 69 3 ver ((St.aw c L).map ak.enc++List.replicate (L.length-(St.aw c L).length) oF))
theorem fw(H:aa)(id ver:Nat)(c:ak→ak→Bool)(L:List ak)(h:St.aw c L=L):gF H id ver c L=aH H id ver L:=by
 unfold gF aH
 rw[h,Nat.sub_self,List.replicate_zero,List.append_nil]
theorem gZ(H:aa)(id ver:Nat)(hid:id<H.length)(g:FuncId)(caps:List AV)(c:ak→ak→Bool)(hc:IX g caps c H id)(n:Nat)(hbig:n≤100000000000)(L:List ak)(hn:L.length=n):
  ag Tryz.prog 171 [.sl id ver 0 n,.fn g caps] (aH H id ver L) (.ok (.sl id ver 0 (St.aw c L).length)) (gF H id ver c L):=by
 have gh:=ca hid ver L
 have hcE:∀M:List ak,∀x y:ak,ag Tryz.prog g ([.agg ((ak.enc x).map .d),.agg ((ak.enc y).map .d)]++caps) (aH H id ver M) (.ok (bA (c x y))) (aH H id ver M):=fun M x y=>hc _ x y
 generalize hE1:gF H id ver c L=E1
 by_cases h2:n<2
 ·have hsame:St.aw c L=L:=by
   cases L with
   |nil=>rfl
   |cons x t=>
    cases t with
    |nil=>rfl
    |cons y t=>simp at hn;omega
  have he:aH H id ver L=E1:=by rw[←hE1,fw _ _ _ _ _ hsame]
  rw[hsame,hn]
  generalize aH H id ver L=E0 at*
  subst he
  refine ag.aj (hint:=(fun _=>false)) Tryz.func171 (by kernel_rfl) rfl [4] (by kernel_rfl) (by decide) (by simp[Tryz.ntmps171]) ?_
  rw[Tryz.ntmps171]
  simp -implicitDefEqProofs only[↓reduceIte,go_sem,Nat.reduceLT,reduceCtorEq,gh,show((n:Int)<2)=True from eq_true (by omega)]
  refine au.aV ?_
  simp -implicitDefEqProofs only[↓reduceIte,go_sem,Nat.reduceLT]
 generalize hE0:aH H id ver L=E0 at gh
 refine ag.aj (hint:=(fun _=>false)) Tryz.func171 (by kernel_rfl) rfl [4] (by kernel_rfl) (by decide) (by simp[Tryz.ntmps171]) ?_
 rw[Tryz.ntmps171]
 simp -implicitDefEqProofs only[↓reduceIte,go_sem,Nat.reduceLT,reduceCtorEq,gh,show((n:Int)<2)=False from eq_false (by omega)]
 refine bj (fun k s H'=>H'=E0∧St.aw c (L.take (k+1))=L.take (k+1)∧s 0= .sl id ver 0 n∧s 1= .fn g caps∧s 5=iA ((k:Int)+1)) (n-1) (by omega) (al.refl _ _) ?_ ?_ ?_
 ·refine⟨rfl,?_,?_⟩
  ·cases L<;>rfl
  ·simp -implicitDefEqProofs only[↓reduceIte,go_sem,Nat.reduceLT,Nat.reduceEqDiff,Int.reduceAdd,reduceCtorEq]
 ·rintro k s H' hk hw ⟨rfl,hp,t0,t1,t5⟩
  obtain⟨q,hq⟩:∃q,q=k+1:=⟨_,rfl⟩
  obtain⟨x,hx⟩:∃x,L[q]?=some x:=⟨_,List.getElem?_eq_getElem (by omega)⟩
  obtain⟨y,hy⟩:∃y,L[k]?=some y:=⟨_,List.getElem?_eq_getElem (by omega)⟩
  have e1:L.take (q+1)=L.take q++[x]:=by rw[List.take_add_one,hx];rfl
  have hsn:St.aw c (L.take (q+1))=St.aw c (L.take q)++(if c x y=true then[]else[x]):=by
   rw[e1]
   exact St.ev (k:=k) (by rw[List.length_take];omega) (by rw[List.getElem?_take,if_pos (by omega)];exact hy)
  rw[←hq]at hp
  have f1:((k:Int)+1)=(q:Int):=by omega
  rw[f1]at t5
  have gx:=aC hx
  have gy:=aC hy
  have hd:=hcE L x y
  rw[hE0]at hd
  have w1:IntKind.i64.wrap ((q:Int)-1)=(k:Int):=by rw[wrap64_in _ (by omega) (by omega)];omega
  have w2:IntKind.i64.wrap ((q:Int)+1)=(q:Int)+1:=wrap64_in _ (by omega) (by omega)
  have hqn:q<n:=by omega
  have hkn:k<n:=by omega
  simp only[ak.enc]at gx gy
  try simp only[ak.enc,List.map_cons,List.map_nil]at hd
  simp -implicitDefEqProofs only[↓reduceIte,go_sem,Nat.reduceLT,Nat.reduceEqDiff,reduceCtorEq,t0,t5,gh,eq_true hqn]
  refine aQ K.mixed (by kernel_rfl) ?_
  simp -implicitDefEqProofs only[↓reduceIte,go_sem,ab,Nat.reduceAdd,Nat.reduceLT,Nat.reduceEqDiff,reduceCtorEq,t0,t1,t5,gh,gx,gy,hqn,hkn,w1]
  refine ae.ok hd ?_
  cases hcc:c x y with
  |false=>
   rw[hcc]at hsn
   simp -implicitDefEqProofs only[↓reduceIte,go_sem,Nat.reduceLT,Nat.reduceEqDiff,t5,w2]
   refine c7.same ⟨rfl,?_,?_⟩
   ·rw[←hq,hsn,hp,e1];rfl
   ·simp -implicitDefEqProofs only[↓reduceIte,go_sem,Nat.reduceLT,Nat.reduceEqDiff,reduceCtorEq,t0,t1,show((k:Int)+1)=(q:Int) by omega]
  |true=>
   rw[hcc]at hsn
   have hsn2:St.aw c (L.take (q+1))=L.take q:=by rw[hsn,hp];simp
   simp -implicitDefEqProofs only[↓reduceIte,go_sem,Nat.reduceLT,Nat.reduceEqDiff,reduceCtorEq,t0,t5,gh]
   refine⟨by omega,.inr (by omega),?_⟩
   have hnq:((n:Int).toNat-q)=n-q:=by omega
   refine bj (fun k2 s H'=>(∃C K1,H'=aH H id ver C∧C=K1++L.drop K1.length∧K1=St.aw c (L.take (q+k2+1))∧K1.length≤q+k2∧s 5=iA K1.length)∧s 0= .sl id ver 0 n∧s 1= .fn g caps∧s 6= .sl id ver q (n-q)∧s 7=iA ((k2:Int)+1)) (n-q-1) (by omega) (al.refl _ _) ?_ ?_ ?_
   ·refine⟨⟨L,L.take q,hE0.symm,?_,?_,?_,?_⟩,?_⟩
    ·rw[List.length_take,Nat.min_eq_left (by omega),List.take_append_drop]
    ·rw[Nat.add_zero];exact hsn2.symm
    ·rw[List.length_take];omega
    ·rw[List.length_take,Nat.min_eq_left (by omega)];simp -implicitDefEqProofs only[↓reduceIte,go_sem,Nat.reduceEqDiff,t5]
    ·simp -implicitDefEqProofs only[↓reduceIte,go_sem,Nat.reduceLT,Nat.reduceEqDiff,Int.reduceAdd,reduceCtorEq,t0,t1]
   ·rintro k2 s H' hk2 hw3 ⟨⟨C,K1,rfl,hC,hK1,hKl,t5⟩,t0,t1,t6,t7⟩
    obtain⟨u,hu⟩:∃u,u=k2+1:=⟨_,rfl⟩
    obtain⟨v,hv⟩:∃v,v=q+u:=⟨_,rfl⟩
    obtain⟨x2,hx2⟩:∃x,L[v]?=some x:=⟨_,List.getElem?_eq_getElem (by omega)⟩
    obtain⟨y2,hy2⟩:∃y,L[v-1]?=some y:=⟨_,List.getElem?_eq_getElem (by omega)⟩
    have hCg:∀i,K1.length≤i→C[i]?=L[i]?:=fun i hi=>by
     rw[hC,List.getElem?_append_right hi,List.getElem?_drop,Nat.add_sub_cancel' hi]
    have hCl:C.length=n:=by rw[hC,List.length_append,List.length_drop];omega
    have e2:L.take (v+1)=L.take v++[x2]:=by rw[List.take_add_one,hx2];rfl
    have hsn3:St.aw c (L.take (v+1))=K1++(if c x2 y2=true then[]else[x2]):=by
     rw[e2,hK1,show q+k2+1=v by omega]
     exact St.ev (k:=v-1) (by rw[List.length_take];omega) (by rw[List.getElem?_take,if_pos (by omega)];exact hy2)
    have gx2:=aC ((hCg v (by omega)).trans hx2)
    have gy2:=aC ((hCg (v-1) (by omega)).trans hy2)
    have hd2:=hcE C x2 y2
    have gC:=ca hid ver C
    have f2:((k2:Int)+1)=(u:Int):=by omega
    rw[f2]at t7
    have w3:IntKind.i64.wrap ((u:Int)-1)=(k2:Int):=by rw[wrap64_in _ (by omega) (by omega)];omega
    have w4:IntKind.i64.wrap ((u:Int)+1)=(u:Int)+1:=wrap64_in _ (by omega) (by omega)
    have f3:q+u=v:=hv.symm
    have f4:q+k2=v-1:=by omega
    have hun:u<n-q:=by omega
    have hkn2:k2<n-q:=by omega
    simp only[ak.enc]at gx2 gy2
    try simp only[ak.enc,List.map_cons,List.map_nil]at hd2
    simp -implicitDefEqProofs only[↓reduceIte,go_sem,Nat.reduceLT,Nat.reduceEqDiff,t6,t7,gC,eq_true hun]
    refine aQ K.mixed (by kernel_rfl) ?_
    simp -implicitDefEqProofs only[↓reduceIte,go_sem,ab,Nat.reduceAdd,Nat.reduceLT,Nat.reduceEqDiff,t1,t6,t7,gC,w3,hun,hkn2,f3,f4,gx2,gy2]
    refine ae.ok hd2 ?_
    cases hc2:c x2 y2 with
    |true=>
     rw[hc2]at hsn3
     simp -implicitDefEqProofs only[↓reduceIte,go_sem,Nat.reduceLT,Nat.reduceEqDiff,t7,w4]
     refine c7.same ⟨⟨C,K1,rfl,hC,?_,by omega,?_⟩,?_⟩
     ·rw[show q+(k2+1)+1=v+1 by omega,hsn3];simp
     ·simp -implicitDefEqProofs only[↓reduceIte,go_sem,Nat.reduceEqDiff,t5]
     ·simp -implicitDefEqProofs only[↓reduceIte,go_sem,Nat.reduceLT,Nat.reduceEqDiff,reduceCtorEq,t0,t1,t6,show((k2:Int)+1)=(u:Int) by omega]
    |false=>
     rw[hc2]at hsn3
     obtain⟨r,hr⟩:∃r,r=K1.length:=⟨_,rfl⟩
     rw[←hr]at t5
     have hrn:r<n:=by omega
     have w5:IntKind.i64.wrap ((r:Int)+1)=((r+1:Nat):Int):=by rw[wrap64_in _ (by omega) (by omega)];omega
     obtain⟨r2,hr2⟩:∃r2,r2=r+1:=⟨_,rfl⟩
     rw[←hr2]at w5
     have s1:=b7 C r x2
     obtain⟨z0,hz0⟩:∃z,C[r]?=some z:=⟨_,List.getElem?_eq_getElem (by omega)⟩
     have gz:=aC hz0
     simp only[ak.enc]at s1 gz
     simp -implicitDefEqProofs only[↓reduceIte,go_sem,ab,an,Nat.reduceAdd,Nat.reduceLT,Nat.reduceEqDiff,reduceCtorEq,t0,t5,t6,t7,gC,hun,hrn,f3,gx2,gz,s1,dR,w4,w5]
     refine c7.same ⟨⟨C.set r x2,K1++[x2],by rw[←dz],?_,?_,?_,?_⟩,?_⟩
     ·have e3:L.drop r=L[r]'(by omega)::L.drop (r+1):=List.drop_eq_getElem_cons (by omega)
      rw[hC,←hr,e3,cd hr.symm];simp[hr]
     ·rw[show q+(k2+1)+1=v+1 by omega,hsn3];simp
     ·rw[List.length_append,List.length_singleton];omega
     ·simp -implicitDefEqProofs only[↓reduceIte,go_sem,Nat.reduceLT,Nat.reduceEqDiff,List.length_append,show((K1.length:Int)+1)=(r2:Int) by omega]
     ·simp -implicitDefEqProofs only[↓reduceIte,go_sem,Nat.reduceLT,Nat.reduceEqDiff,reduceCtorEq,t0,t1,t6,show((k2:Int)+1)=(u:Int) by omega]
   ·rintro s H' ⟨⟨C,K1,rfl,hC,hK1,hKl,t5⟩,t0,t1,t6,t7⟩
    have hK2:St.aw c L=K1:=by rw[hK1,List.take_of_length_le (by omega)]
    have hCl:C.length=n:=by rw[hC,List.length_append,List.length_drop];omega
    have gC:=ca hid ver C
    have hlt:((((n-q-1:Nat):Int)+1)<((n-q:Nat):Int))=False:=eq_false (by omega)
    obtain⟨r,hr⟩:∃r,r=K1.length:=⟨_,rfl⟩
    rw[←hr]at t5
    have hrn:((n:Int).toNat-r)=n-r:=by omega
    have hCt:C.take r=K1:=by rw[hC,hr,List.take_left]
    have hsr:bE (C.map ak.enc) r (eQ (.agg #[.int .i64 0,.int .i64 0,.string ⟨#[]⟩]) (n-r))=(St.aw c L).map ak.enc++List.replicate (L.length-(St.aw c L).length) oF:=by
     unfold bE
     rw[←List.map_take,hCt,List.drop_of_length_le (by simp[eQ];omega),List.append_nil,hK2,hn,←hr]
     rfl
    have hfo:H.set id (.arr 69 3 ver ((St.aw c L).map ak.enc++List.replicate (L.length-(St.aw c L).length) oF))=E1:=hE1
    have gE:E1[id]?=some (.arr 69 3 ver ((St.aw c L).map ak.enc++List.replicate (L.length-(St.aw c L).length) oF)):=by rw[←hfo];simp[hid]
    simp -implicitDefEqProofs only[↓reduceIte,go_sem,Nat.reduceAdd,Nat.reduceLT,Nat.reduceEqDiff,reduceCtorEq,t0,t5,t6,t7,gC,hlt]
    refine⟨by omega,.inr (by omega),?_⟩
    rw[hsr,dR,hfo]
    simp -implicitDefEqProofs only[↓reduceIte,go_sem,Nat.reduceLT,Int.reduceLE,Int.reduceToNat,gE]
    refine⟨by omega,.inl trivial,_,al.refl _ _,?_⟩
    simp -implicitDefEqProofs only[↓reduceIte,go_sem,Nat.reduceLT,hK2,←hr,Nat.sub_zero]
 ·rintro s H' ⟨rfl,hp,t0,t1,t5⟩
  have hsame:St.aw c L=L:=by rwa[show n-1+1=n by omega,←hn,List.take_length]at hp
  have he:H'=E1:=by rw[←hE1,fw _ _ _ _ _ hsame,hE0]
  simp -implicitDefEqProofs only[↓reduceIte,go_sem,Nat.reduceLT,Nat.reduceEqDiff,reduceCtorEq,t0,t5,gh,show(((n-1:Nat):Int)+1<(n:Int))=False from eq_false (by omega)]
  rw[←he,hsame,hn]
  refine au.aV ?_
  simp -implicitDefEqProofs only[↓reduceIte,go_sem,Nat.reduceLT]
end SV
end Go.Proofs.YtfklokhopcmloaaGreat
namespace Go.Proofs.YtfklokhopcmloaaGreat
open Go.Proofs.YtfklokhopcmloaaGreatAw Go.RowKit
def FP(a b:ak):Bool:=decide (aM a b=0)
theorem tB(a b:ak)(H:aa):ag Tryz.prog 172 [a.av,b.av] H (.ok (bA (FP a b))) H:=by
 refine ag.aj (hint:=(fun _=>false)) Tryz.func172 (by kernel_rfl) rfl [4] (by kernel_rfl) (by decide) (by simp[Tryz.ntmps172]) ?_
 rw[Tryz.ntmps172]
 simp -implicitDefEqProofs only[↓reduceIte,go_sem,ab,Nat.reduceAdd,Nat.reduceLT,Nat.reduceEqDiff]
 refine ae.ok (cj a b _) ?_
 simp -implicitDefEqProofs only[↓reduceIte,go_sem,Nat.reduceLT]
 refine au.ret ?_
 simp -implicitDefEqProofs only[↓reduceIte,go_sem,Nat.reduceLT,FP]
theorem wM(l:List ak)(nn:Bool)(H:aa)(hl:l.length≤10000000000):ag Tryz.prog 147 [.d (.list nn (l.map ak.enc))] H (.ok (.d (.list false ((bL aM l).map ak.enc)))) H:=by
 have ho:St.Ord (SV.aN aM):=eH.ord
 obtain⟨H1,hH1⟩:∃H1,H1=H++[az.arr 69 3 1 (l.map ak.enc)]:=⟨_,rfl⟩
 have hid:H.length<H1.length:=by rw[hH1];simp
 have e0:H1=SV.aH H1 H.length 1 l:=by
  unfold SV.aH
  rw[hH1];simp
 have hs:=SV.mb H1 H.length 1 hid 81 [] aM ho (fun o x y=>cj x y _) l.length (by omega) l rfl
 rw[←e0]at hs
 have hc:=SV.gZ H1 H.length 1 hid 172 [] FP (fun o x y=>tB x y _) l.length (by omega) (St.aD (SV.aN aM) l) (St.aP _)
 have hk:=SV.dI l nn H (by omega)
 rw[←hH1]at hk
 have hn:St.aw FP (St.aD (SV.aN aM) l)=bL aM l:=rfl
 have hfin:SV.gF H1 H.length 1 FP (St.aD (SV.aN aM) l)=H++[az.arr 69 3 1 ((bL aM l).map ak.enc++List.replicate (l.length-(bL aM l).length) SV.oF)]:=by
  unfold SV.gF
  rw[hH1,St.aP,hn]
  simp
 refine ag.aj (hint:=(fun _=>false)) Tryz.func147 (by kernel_rfl) rfl [2] (by kernel_rfl) (by decide) (by simp[Tryz.ntmps147]) ?_
 rw[Tryz.ntmps147]
 simp -implicitDefEqProofs only[↓reduceIte,go_sem,Nat.reduceLT,reduceCtorEq]
 refine ae.ok hk ?_
 simp -implicitDefEqProofs only[↓reduceIte,go_sem,Nat.reduceLT]
 refine ae.ok hs ?_
 simp -implicitDefEqProofs only[↓reduceIte,go_sem,Nat.reduceLT,Nat.reduceEqDiff]
 refine ae.ok hc ?_
 rw[hfin]
 simp -implicitDefEqProofs only[↓reduceIte,go_sem,Nat.reduceLT,hn]
 refine au.ret ?_
 have ht:((bL aM l).map ak.enc++List.replicate (l.length-(bL aM l).length) SV.oF).take (bL aM l).length=(bL aM l).map ak.enc:=by rw[List.take_left' (by simp)]
 simp -implicitDefEqProofs only[↓reduceIte,go_sem,Nat.reduceLT,ht]
def AH(W:List ak):Prop:=W.Pairwise (fun x y=>sv aM x y=true)
theorem AH.get{W:List ak}(h:AH W){i j:Nat}{x y:ak}(hx:W[i]?=some x)(hy:W[j]?=some y):aM x y<0↔i<j:=by
 have key:∀{i j:Nat} {x y:ak},W[i]?=some x→W[j]?=some y→i<j→aM x y<0:=by
  intro i j x y hx hy hij
  obtain⟨h1,rfl⟩:=List.getElem?_eq_some_iff.1 hx
  obtain⟨h2,rfl⟩:=List.getElem?_eq_some_iff.1 hy
  have:=List.pairwise_iff_getElem.1 h i j h1 h2 hij
  simpa[sv]using this
 constructor
 ·intro g
  rcases Nat.lt_trichotomy i j with h1|h1|h1
  ·exact h1
  ·subst h1
   rw[hx]at hy;cases hy
   have:=eH.self x
   omega
  ·have:=key hy hx h1
   have:=(eH.fO x y).1 g
   omega
 ·exact key hx hy
theorem AH.below{v:ak}:∀{W:List ak},AH W→∀{i:Nat} {y:ak},W[i]?=some y→(aM y v<0↔i<je W v)
 |[],_,i,y,hy=>by simp at hy
 |x::t,h,i,y,hy=>by
  have h1:=List.pairwise_cons.1 h
  have hb:je (x::t) v=je t v+if aM x v<0 then 1 else 0:=by
   unfold je
   rw[List.countP_cons]
   by_cases h:aM x v<0<;>simp[h]
  by_cases hx:aM x v<0
  ·rw[hb,if_pos hx]
   cases i with
   |zero=>
    simp at hy;subst hy
    simp[hx]
   |succ i=>
    have:=AH.below (v:=v) h1.2 (i:=i) (y:=y) (by simpa using hy)
    omega
  ·rw[hb,if_neg hx,Nat.add_zero]
   have hz:je t v=0:=by
    unfold je
    rw[List.countP_eq_zero]
    intro w hw
    have h2:=h1.1 w hw
    intro h3
    have h4:=eH.ord.trans h2 (show sv aM w v=true by simpa[sv]using h3)
    exact hx (by simpa[sv]using h4)
   rw[hz]
   refine⟨fun g=>?_,fun g=>by omega⟩
   exfalso
   cases i with
   |zero=>simp at hy;subst hy;exact hx g
   |succ i=>
    have hyt:y∈t:=List.mem_of_getElem? (i:=i) (by simpa using hy)
    have:0<je t v:=by
     unfold je
     rw[List.countP_pos_iff]
     exact⟨y,hyt,by simpa using g⟩
    omega
theorem vI{W:List ak}{a:ak}(h:∃y∈W,aM y a=0):∃(i:Nat) (y:ak),cf W a=i∧W[i]?=some y∧aM y a=0:=by
 obtain⟨y,hy,hc⟩:=h
 have hany:W.any (fun w=>decide (aM w a=0))=true:=List.any_eq_true.2 ⟨y,hy,by simpa using hc⟩
 have hlt:W.findIdx (fun w=>decide (aM w a=0))<W.length:=List.findIdx_lt_length_of_exists ⟨y,hy,by simpa using hc⟩
 refine⟨W.findIdx (fun w=>decide (aM w a=0)),W[W.findIdx (fun w=>decide (aM w a=0))],?_,List.getElem?_eq_getElem hlt,?_⟩
 ·unfold cf jV
  rw[if_pos hany]
 ·have:=List.findIdx_getElem (w:=hlt)
  simpa using this
theorem mD{l:List ak}{a:ak}(h:a∈l):∃(i:Nat) (y:ak),cf (bL aM l) a=i∧(bL aM l)[i]?=some y∧aM y a=0:=by
 obtain⟨y,hy,hc⟩:=zy eH h
 exact vI ⟨y,hy,(eH.zero a y).1 hc⟩
def mE(l:List ak)(a:ak):Nat:=(cf (bL aM l) a).toNat
theorem oY(l:List ak):ew (bL aM l) l=true:=by
 unfold ew
 rw[List.all_eq_true]
 intro a ha
 obtain⟨i,y,hi,_⟩:=mD ha
 rw[hi];simp
theorem rK(l:List ak):ry (bL aM l) l= .aZ [.d (.list false (us (l.map (mE l)))),iA 0]:=by
 unfold ry wD vR
 rw[oY]
 rfl
def oq(n:Nat):Nat:=c4 (n-1)
theorem CW{n:Nat}(h:n≤4096):oq n≤12:=(eu _ 12).2 (by omega)
theorem AF(n:Nat):fq [n]=c4 n:=by simp[fq]
theorem ue(n:Nat)(hn:n≤1000000000000)(H:aa):ag Tryz.prog 150 [iA n] H (.ok (iA (oq n))) H:=by
 have hw:=fun H=>oh [n-1] true H (by simp) (by intro x hx;simp at hx;omega)
 rw[AF]at hw
 have m:max (IntKind.i64.wrap ((n:Int)-1)) 0=((n-1:Nat):Int):=by rw[wrap64_in _ (by omega) (by omega)];omega
 have u:=cL (n-1) (by omega)
 have hus:us [n-1]=[[.v (.int .u64 ((n-1:Nat):Int))]]:=rfl
 rw[hus]at hw
 unfold oq
 generalize ((n-1:Nat):Int)=q at*
 generalize c4 (n-1)=r at*
 refine ag.aj (hint:=(fun _=>false)) Tryz.func150 (by kernel_rfl) rfl [2] (by kernel_rfl) (by decide) (by simp[Tryz.ntmps150]) ?_
 rw[Tryz.ntmps150]
 simp -implicitDefEqProofs only[↓reduceIte,go_sem,Nat.reduceLT,Nat.reduceLeDiff,reduceCtorEq,m,u,List.foldl_cons,List.foldl_nil]
 refine ae.ok (hw _) ?_
 simp -implicitDefEqProofs only[↓reduceIte,go_sem,Nat.reduceLT]
 refine au.aV ?_
 simp -implicitDefEqProofs only[↓reduceIte,go_sem,Nat.reduceLT]
def bU(W:List ak):List Nat:=W.flatMap gD
theorem fZ(W:List ak)(v:ak):bU (W++[v])=bU W++gD v:=by simp[bU]
def AY(l:List ak):List Nat:=cy (bL aM l).length++bU (bL aM l)++fL (l.map (mE l)) (oq (bL aM l).length)
def n8(l:List ak)(k:Int):List Nat:=if a7 l k=0 then AY l else[]
theorem kx{l:List ak}{k:Int}(h:a7 l k=0):∀v∈l,eK v=true:=by
 unfold a7 at h
 intro v hv
 by_cases h1:l.any (fun v=> !eK v)=true
 ·rw[if_pos h1]at h
  repeat' split at h
  all_goals omega
 ·have h2:l.any (fun v=> !eK v)=false:=by simpa using h1
  have:=List.any_eq_false.1 h2 v hv
  simpa using this
theorem Bj{l:List ak}{a:ak}(h:a∈l):mE l a<(bL aM l).length:=by
 obtain⟨i,y,h1,h2,_⟩:=mD h
 unfold mE
 rw[h1]
 have:=(List.getElem?_eq_some_iff.1 h2).1
 omega
theorem Ac(l:List ak):(bL aM l).length≤l.length:=by
 have h:=St.rE (eq:=fun a b=>decide (aM a b=0)) (St.aD (sv aM) l)
 rwa[St.aP]at h
theorem zq{l:List ak}:∀n∈l.map (mE l),n<2^oq (bL aM l).length:=fun n hn=>by
 obtain⟨a,ha,rfl⟩:=List.mem_map.1 hn
 have h1:=Bj ha
 have h2:=(eu ((bL aM l).length-1) (oq (bL aM l).length)).1 (Nat.le_refl _)
 omega
theorem jo{v:ak}(hi:-9223372036854775808≤v.i∧v.i≤9223372036854775807)(hm:eK v=true):(gD v).length≤1035:=by
 unfold gD
 have hz:=m7 hi.1 hi.2
 by_cases h1:v.kind=1
 ·rw[if_pos h1];have:=eC 10 (jB v.i) (by omega);omega
 rw[if_neg h1]
 by_cases h2:v.kind=2
 ·rw[if_pos h2,lj];omega
 rw[if_neg h2]
 by_cases h3:v.kind=3
 ·rw[if_pos h3]
  have hs:=ua hm h3
  have:=eC 10 v.s.size (by omega)
  rw[uN,List.length_append,nC]
  omega
 ·rw[if_neg h3];simp
theorem nF(l:List ak)(k:Int)(hok:∀v∈l,jU v.i)(H:aa)(hl:l.length≤1000000000000):
  ag Tryz.prog 118 [.d (.list false (l.map ak.enc)),iA k] H (.ok (.aZ [.d (.list false (dF (n8 l k))),iA (a7 l k)])) H:=by
 by_cases hp:a7 l k=0
 ·have hd:n8 l k=AY l:=by unfold n8;rw[if_pos hp]
  have hmay:=kx hp
  have h4:=iN hp
  have hwl:=Ac l
  have hW:∀w∈bL aM l,w∈l:=fun w hw=>yE eH hw
  have hcf:=zq (l:=l)
  have hcd:=fun H=>wg (bL aM l) l false false H (by omega) (by omega)
  have hwd:=fun H=>wM l false H (by omega)
  rw[rK]at hcd
  have hB:AY l=cy (bL aM l).length++bU (bL aM l)++fL (l.map (mE l)) (oq (bL aM l).length):=rfl
  have hcl:(l.map (mE l)).length=l.length:=by simp
  rw[hd,hp]
  generalize l.map (mE l)=C at*
  generalize bL aM l=W at*
  have hpk:=fL
  have hwid:=CW (n:=W.length) (by omega)
  have l1:=eC 10 W.length (by omega)
  have hWb:∀k,k≤W.length→(bU (W.take k)).length≤k* 1035:=by
   intro k
   induction k with
   |zero=>intro _;simp[bU]
   |succ k ih=>
    intro hk
    have hk':k<W.length:=by omega
    rw[List.take_succ_eq_append_getElem hk',fZ,List.length_append]
    have h1:=ih (by omega)
    have hm:=hW _ (List.getElem_mem hk')
    have h2:=jo (hok _ hm) (hmay _ hm)
    omega
  refine ag.aj (hint:=(fun _=>false)) Tryz.func118 (by kernel_rfl) rfl [4,5] (by kernel_rfl) (by decide) (by simp[Tryz.ntmps118]) ?_
  rw[Tryz.ntmps118]
  simp -implicitDefEqProofs only[↓reduceIte,go_sem,Nat.reduceLT,Nat.reduceEqDiff,reduceCtorEq]
  refine ae.ok (dd l k false _ (by omega)) ?_
  rw[hp]
  simp -implicitDefEqProofs only[↓reduceIte,go_sem,Nat.reduceLT,reduceCtorEq]
  refine ae.ok (hwd _) ?_
  simp -implicitDefEqProofs only[↓reduceIte,go_sem,Nat.reduceLT,List.length_map,cL W.length (by omega)]
  refine ae.ok (gb W.length (by omega) _) ?_
  simp -implicitDefEqProofs only[↓reduceIte,go_sem,Nat.reduceLT,Nat.reduceEqDiff,List.length_map]
  refine aO (fun j s H'=>∃ver,H'=H++[.arr 5 1 ver (dF (cy W.length++bU (W.take j)))]∧s 0= .d (.list false (l.map ak.enc))∧s 7= .d (.list false (W.map ak.enc))∧s 8= .sl H.length ver 0 (cy W.length++bU (W.take j)).length∧s 29= .d (.list false (W.map ak.enc))∧s 30=iA W.length∧s 31=iA j) W.length (by omega) (al.refl _ _) ?_ ?_ ?_
  ·refine⟨(cy W.length).length,?_,?_⟩
   ·rw[show bU (W.take 0)=[]from rfl,List.append_nil]
   ·rw[show bU (W.take 0)=[]from rfl,List.append_nil]
    simp -implicitDefEqProofs only[↓reduceIte,go_sem,Nat.reduceLT,Nat.reduceEqDiff,reduceCtorEq]
  ·rintro j s H' hj hw ⟨ver,rfl,t0,t7,t8,t29,t30,t31⟩
   have hx:=List.getElem?_eq_getElem hj
   have hm:=hW _ (List.getElem_mem hj)
   have hb:=hWb j (by omega)
   have hvl:=jo (hok _ hm) (hmay _ hm)
   have e1:cy W.length++bU (W.take (j+1))=(cy W.length++bU (W.take j))++gD W[j]:=by rw[List.take_succ_eq_append_getElem hj,fZ,List.append_assoc]
   have hvd:=fun H=>gp W[j] (hok _ hm) (hmay _ hm) H
   rw[e1]
   have hBl:(cy W.length++bU (W.take j)).length≤11+j* 1035:=by rw[List.length_append];omega
   generalize cy W.length++bU (W.take j)=B at*
   generalize W[j]=w at*
   simp -implicitDefEqProofs only[↓reduceIte,go_sem,ab,an,Nat.reduceAdd,Nat.reduceLT,Nat.reduceEqDiff,t29,t30,t31,hj,hx,ak.enc]
   refine ae.ok (hvd _) ?_
   simp -implicitDefEqProofs only[↓reduceIte,go_sem,Nat.reduceLT,Nat.reduceEqDiff,t8,fS,bF,iC]
   refine⟨by omega,by omega,?_⟩
   simp -implicitDefEqProofs only[↓reduceIte,go_sem,Nat.reduceLT,t31]
   refine c7.cut [.arr 5 1 (ver+1) (dF (B++gD w))] [.box 69 3 0 1 [iA w.kind,iA w.i,sA w.s]] 1 rfl rfl (by simp -implicitDefEqProofs only[go_sem]) ?_
   refine⟨ver+1,rfl,?_⟩
   simp -implicitDefEqProofs only[↓reduceIte,go_sem,Nat.reduceLT,Nat.reduceEqDiff,reduceCtorEq,t0,t7,t29,t30,hw]
  ·rintro s H' ⟨ver,rfl,t0,t7,t8,t29,t30,t31⟩
   rw[show W.take W.length=W from List.take_length]at*
   have hb:=hWb W.length (Nat.le_refl _)
   rw[List.take_length]at hb
   have l3:(fL C (oq W.length)).length≤100000:=by
    rw[fL,gM,jS]
    have:C.length* oq W.length≤4096* 12:=Nat.mul_le_mul (by omega) hwid
    omega
   have l4:(cy W.length++bU W).length≤11+4096* 1035:=by rw[List.length_append];omega
   simp -implicitDefEqProofs only[↓reduceIte,go_sem,Nat.reduceLT,Nat.reduceEqDiff,reduceCtorEq,t0,t7,t30,t31]
   refine ae.ok (hcd _) ?_
   simp -implicitDefEqProofs only[↓reduceIte,go_sem,Nat.reduceLT,Nat.reduceEqDiff,t7,List.length_map]
   refine ae.ok (ue W.length (by omega) _) ?_
   simp -implicitDefEqProofs only[↓reduceIte,go_sem,Nat.reduceLT,Nat.reduceEqDiff]
   refine ae.ok (qy C (oq W.length) (by omega) hcf (by omega) false _) ?_
   rw[hB]
   generalize fL C (oq W.length)=Z at*
   generalize cy W.length++bU W=B at*
   simp -implicitDefEqProofs only[↓reduceIte,go_sem,Nat.reduceLT,Nat.reduceEqDiff,t8,fS,bF,iC]
   refine⟨by omega,by omega,au.ret ?_⟩
   have ht:(dF (B++Z)).take (B.length+Z.length)=dF (B++Z):=List.take_of_length_le (by rw[bF,List.length_append];omega)
   simp -implicitDefEqProofs only[↓reduceIte,go_sem,Nat.reduceLT,Nat.reduceEqDiff,ht]
 ·have hd:n8 l k=[]:=by unfold n8;rw[if_neg hp]
  rw[hd]
  refine ag.jX (cs:=[.d (.v (.slice none 0 0)),iA (a7 l k)]) ?_ (.cons .nil (.cons (.refl _) .nil))
  refine ag.aj (hint:=(fun _=>false)) Tryz.func118 (by kernel_rfl) rfl [4,5] (by kernel_rfl) (by decide) (by simp[Tryz.ntmps118]) ?_
  rw[Tryz.ntmps118]
  simp -implicitDefEqProofs only[↓reduceIte,go_sem,Nat.reduceLT,Nat.reduceEqDiff,reduceCtorEq]
  refine ae.ok (dd l k false _ (by omega)) ?_
  simp -implicitDefEqProofs only[↓reduceIte,go_sem,Nat.reduceLT,Nat.reduceEqDiff,hp]
  refine au.aV ?_
  simp -implicitDefEqProofs only[↓reduceIte,go_sem,Nat.reduceLT,Nat.reduceEqDiff]
end Go.Proofs.YtfklokhopcmloaaGreat
namespace Go.Proofs.YtfklokhopcmloaaGreatAw
open Go.RowKit
def GC(v:Value):FrameMode:= .panicking [{v:=v,recovered:=false}]
def HF(v:Value):FrameMode:= .panicking [{v:=v,recovered:=true}]
inductive Mode:FrameMode→Value→FrameMode→Prop
 |ret:Mode .returning .nilIface .returning
 |Jj (v:Value):Mode (GC v) v (HF v)
def Dw(P:Program)(f:FuncId)(args:List AV)(H:aa)(u:FrameMode)(H':aa)(u':FrameMode):Prop:=
 ∀φ N w vals,Rel H φ N w→pE H φ N w args vals→(callFunc f vals).run P w= .ok (.enter f vals) w∧
  CallsD P f vals u w fun e u1 w'=>(∃v,e= .returned v)∧u1=u'∧∃φ' N',Rel H' φ' N' w'∧ar H φ N w H' φ' N' w'
theorem pE.since{H H':aa}{φ φ':aF}{N N':Addr→Prop}{w w':World}{args:List AV}{vals:Array Value}(h:pE H φ N w args vals)(hR:Rel H φ N w)(hS:ar H φ N w H' φ' N' w'):pE H' φ' N' w' args vals:=
 ⟨h.1,fun i h1 h2=>(h.2 i h1 h2).since hR hS⟩
theorem Dw.aj{P:Program}{hint:Nat→Bool}{f:FuncId}{fn:Func}{id:Nat}{o0 o1:Oper}{rest:Code}{d0 d1:Tmp}(hf:P.funcs[f]?=some fn)(hn:(fn.name== "runtime.NumGoroutine")=false)(hb:fn.body=some (.seq (.region id #[o0,o1] false) rest))
  (h0:∃ats,o0.op= .call {callee:= .builtin .recover,args:=#[],argTypes:=ats}) (g0:o0.guard=none) (e0:o0.dst=some d0) (h1:o1.op= .assign (.tmp d0)) (g1:o1.guard=none) (e1:o1.dst=some d1) (hl:d0<fn.ntmps) (hr:fn.results=#[])
  {args:List AV} {H H':aa} {u u':FrameMode} {v:Value} (ha:args.length≤fn.ntmps) (hm:Mode u v u')
  (h:cg P hint fn.ntmps H rest (fun e s H1=>(match e with| .normal| .ret=>True|_=>False)∧∃s',al H s H1 s' H') (bf fn.ntmps (bf fn.ntmps (jG args) (some d0) (bH v)) (some d1) (bH v)) H) (hmk:hint 2000000=false:=by rfl):Dw P f args H u H' u':=by
 intro φ N w vals hR hA
 refine⟨fh hf hn (by rw[hb];rfl) vals w,callsD_of_wpS hf hb fun c0 cs hc0=>wpS_seq (wpS_region ?_)⟩
 have hI:Inv H φ N w fn.ntmps ⟨false,[]⟩ (bf fn.ntmps (bf fn.ntmps (jG args) (some d0) (bH v)) (some d1) (bH v)) H φ N (({tmps:=vals++Array.replicate (fn.ntmps-vals.size) undef,defers:=[]}:Act).put (some d0) v|>.put (some d1) v) w:=by
  have h:Inv H φ N w fn.ntmps ⟨false,[]⟩ (jG args) H φ N {tmps:=vals++Array.replicate (fn.ntmps-vals.size) undef,defers:=[]} w:=
   ⟨hR,hA.init _,ar.refl,by simp;have:=hA.1;omega,iI.refl⟩
  exact(h.put hR ar.refl (dg v) (some d0)).put hR ar.refl (dg v) (some d1)
 have hrec:∃cs',(match recoverD (c0::cs)with|some (x,cs')=>(x,cs')|none=>(Value.nilIface,c0::cs))=(v,cs')∧cs'={c0 with mode:=u'}::cs:=by
  subst hc0
  generalize hu:c0.mode=u at hm
  cases hm with
  |ret=>exact⟨c0::cs,by simp[recoverD,hu],by rw[←hu]⟩
  |Jj v=>exact⟨_,by simp[recoverD,hu,GC];rfl,rfl⟩
 obtain⟨cs',hrec,hcs⟩:=hrec
 have hwp:=Es (fun e=>by rw[hmk]at e;cases e) hR rest _ hI h
 let R:Ending→FrameMode→World→Prop:=fun e u1 w'=>(∃v,e= .returned v)∧u1=u'∧∃φ' N',Rel H' φ' N' w'∧ar H φ N w H' φ' N' w'
 have hS:Code.wpS P rest (bodyPostS P fn c0 cs R) ((({tmps:=vals++Array.replicate (fn.ntmps-vals.size) undef,defers:=[]}:Act).put (some d0) v).put (some d1) v) cs' w:=by
  refine wpS_of_wp (wp_mono hwp ?_)
  rintro e a' w' ⟨ax,s',H1,φ1,N1,rfl,⟨hq,s'',hW⟩,hI1⟩
  obtain⟨φ2,N2,hI2⟩:=hW.ok hR hI1
  have fin:a'.defers=[]∧∃u1,cs'={c0 with mode:=u1}::cs∧∃v,(results fn a'.tmps).run P w'= .ok v w'∧R (.returned v) u1 w':=
   ⟨hI2.defers.eq,u',hcs,_,jD [] (by rw[hr];rfl) (by simp) _ _,⟨_,rfl⟩,rfl,φ2,N2,hI2.rel,hI2.since⟩
  cases ax with
  |normal=>exact fin
  |ret=>exact fin
  |exit i=>exact hq.elim
  |panic v=>exact hq.elim
 have tail:wpOpsS P #[o0,o1] (Exit.thenS (Code.wpS P rest (bodyPostS P fn c0 cs R)) (bodyPostS P fn c0 cs R)) [1]
   (({tmps:=vals++Array.replicate (fn.ntmps-vals.size) undef,defers:=[]}:Act).put (some d0) v) cs' w:=by
  have hev:(({tmps:=vals++Array.replicate (fn.ntmps-vals.size) undef,defers:=[]}:Act).put (some d0) v).eval (.tmp d0)=v:=by
   have:d0<vals.size+(fn.ntmps-vals.size):=Nat.lt_of_lt_of_le hl (by omega)
   simp[Act.eval,Act.put,this]
  have hx:(execOp (({tmps:=vals++Array.replicate (fn.ntmps-vals.size) undef,defers:=[]}:Act).put (some d0) v).eval o1).run P w= .ok (.value v) w:=by
   simp only[execOp,h1,hev];rfl
  have hw:Region.wanted o1 (yielded #[o0,o1] (({tmps:=vals++Array.replicate (fn.ntmps-vals.size) undef,defers:=[]}:Act).put (some d0) v).tmps)=true:=by simp[Region.wanted,g1]
  simp only[wpOpsS,List.getElem?_toArray,List.getElem?_cons_succ,List.getElem?_cons_zero,hw,if_true,hx,Oper.upon,e1]
  exact hS
 obtain⟨ats,h0⟩:=h0
 have hx:(execOp (({tmps:=vals++Array.replicate (fn.ntmps-vals.size) undef,defers:=[]}:Act)).eval o0).run P w= .ok .recover w:=by
  simp only[execOp,h0,resolve,invoke]
  rfl
 have hw:Region.wanted o0 (yielded #[o0,o1] (({tmps:=vals++Array.replicate (fn.ntmps-vals.size) undef,defers:=[]}:Act)).tmps)=true:=by simp[Region.wanted,g0]
 show wpOpsS P #[o0,o1] _ [0,1] _ _ _
 unfold wpOpsS
 simp only[List.getElem?_toArray,List.getElem?_cons_zero,hw,if_true,hx,e0]
 revert hrec
 cases recoverD (c0::cs)with
 |none=>
  intro hrec
  have e1:Value.nilIface=v:=congrArg Prod.fst hrec
  have e2:c0::cs=cs':=congrArg Prod.snd hrec
  simp only[e1,e2]
  exact tail
 |some p=>
  intro hrec
  have e1:p.1=v:=congrArg Prod.fst hrec
  have e2:p.2=cs':=congrArg Prod.snd hrec
  simp only[e1,e2]
  exact tail
end Go.Proofs.YtfklokhopcmloaaGreatAw
namespace Go.Proofs.YtfklokhopcmloaaGreat
open Go.Proofs.YtfklokhopcmloaaGreatAw Go.RowKit
def zV:ak:=⟨0,0,jK⟩
def Dv(W:List ak):Prop:=∀i x y,W[i]?=some x→W[i+1]?=some y→aM x y<0
noncomputable instance Dv.dec (W:List ak):Decidable (Dv W):=Classical.propDecidable _
def nP(l:List ak)(k:Int):List Nat:=if a7 l k=0 then bU l else[]
theorem yU{l:List ak}(hok:∀v∈l,jU v.i)(hm:∀v∈l,eK v=true):∀k,k≤l.length→(bU (l.take k)).length≤k* 1035:=by
 intro k
 induction k with
 |zero=>intro _;simp[bU]
 |succ k ih=>
  intro hk
  have hk':k<l.length:=by omega
  rw[List.take_succ_eq_append_getElem hk',fZ,List.length_append]
  have h1:=ih (by omega)
  have h2:=jo (hok _ (List.getElem_mem hk')) (hm _ (List.getElem_mem hk'))
  omega
theorem mQ(l:List ak)(k:Int)(hok:∀v∈l,jU v.i)(H:aa)(hl:l.length≤1000000000000):
  ag Tryz.prog 110 [.d (.list false (l.map ak.enc)),iA k] H (.ok (.aZ [.d (.list false (dF (nP l k))),iA (a7 l k)])) H:=by
 by_cases hp:a7 l k=0
 ·rw[show nP l k=bU l from if_pos hp]
  have hmay:=kx hp
  have h4:=iN hp
  have hWb:=yU hok hmay
  refine ag.aj (hint:=(fun _=>false)) Tryz.func110 (by kernel_rfl) rfl [4,5] (by kernel_rfl) (by decide) (by simp[Tryz.ntmps110]) ?_
  rw[Tryz.ntmps110]
  simp -implicitDefEqProofs only[↓reduceIte,go_sem,Nat.reduceLT,Nat.reduceEqDiff,reduceCtorEq]
  refine ae.ok (dd l k false _ (by omega)) ?_
  rw[hp]
  simp -implicitDefEqProofs only[↓reduceIte,go_sem,Nat.reduceLT,reduceCtorEq]
  refine aO (fun j s H'=>∃ver,H'=H++[.arr 5 1 ver (dF (bU (l.take j)))]∧s 7= .sl H.length ver 0 (bU (l.take j)).length∧s 18= .d (.list false (l.map ak.enc))∧s 19=iA l.length∧s 20=iA j) l.length (by omega) (al.gB _ _ 7 5 1 (by decide) (by simp -implicitDefEqProofs only[↓reduceIte,go_sem,Nat.reduceLT,Nat.reduceEqDiff]) _) ?_ ?_ ?_
  ·refine⟨0,rfl,?_⟩
   simp -implicitDefEqProofs only[↓reduceIte,go_sem,Nat.reduceLT,Nat.reduceEqDiff]
   rfl
  ·rintro j s H' hj hw ⟨ver,rfl,t7,t18,t19,t20⟩
   have hx:=List.getElem?_eq_getElem hj
   have hm:=List.getElem_mem hj
   have hb:=hWb j (by omega)
   have hvl:=jo (hok _ hm) (hmay _ hm)
   have e1:bU (l.take (j+1))=bU (l.take j)++gD l[j]:=by rw[List.take_succ_eq_append_getElem hj,fZ]
   have hvd:=fun H=>gp l[j] (hok _ hm) (hmay _ hm) H
   rw[e1]
   generalize bU (l.take j)=B at*
   generalize l[j]=w at*
   simp -implicitDefEqProofs only[↓reduceIte,go_sem,ab,an,Nat.reduceAdd,Nat.reduceLT,Nat.reduceEqDiff,t18,t19,t20,hj,hx,ak.enc]
   refine ae.ok (hvd _) ?_
   simp -implicitDefEqProofs only[↓reduceIte,go_sem,Nat.reduceLT,Nat.reduceEqDiff,t7,fS,bF,iC]
   refine⟨by omega,by omega,?_⟩
   simp -implicitDefEqProofs only[↓reduceIte,go_sem,Nat.reduceLT,t20]
   refine c7.cut [.arr 5 1 (ver+1) (dF (B++gD w))] [.box 69 3 0 1 [iA w.kind,iA w.i,sA w.s]] 1 rfl rfl (by simp -implicitDefEqProofs only[go_sem]) ?_
   refine⟨ver+1,rfl,?_⟩
   simp -implicitDefEqProofs only[↓reduceIte,go_sem,Nat.reduceLT,Nat.reduceEqDiff,t18,t19,hw]
  ·rintro s H' ⟨ver,rfl,t7,t18,t19,t20⟩
   rw[show l.take l.length=l from List.take_length]at*
   simp -implicitDefEqProofs only[↓reduceIte,go_sem,Nat.reduceLT,Nat.reduceEqDiff,t7,t19,t20]
   refine au.ret ?_
   simp -implicitDefEqProofs only[↓reduceIte,go_sem,Nat.reduceLT,Nat.reduceEqDiff,List.take_of_length_le (Nat.le_of_eq (bF (bU l)))]
 ·rw[show nP l k=[]from if_neg hp]
  refine ag.jX (cs:=[.d (.v (.slice none 0 0)),iA (a7 l k)]) ?_ (.cons .nil (.cons (.refl _) .nil))
  refine ag.aj (hint:=(fun _=>false)) Tryz.func110 (by kernel_rfl) rfl [4,5] (by kernel_rfl) (by decide) (by simp[Tryz.ntmps110]) ?_
  rw[Tryz.ntmps110]
  simp -implicitDefEqProofs only[↓reduceIte,go_sem,Nat.reduceLT,Nat.reduceEqDiff,reduceCtorEq]
  refine ae.ok (dd l k false _ (by omega)) ?_
  simp -implicitDefEqProofs only[↓reduceIte,go_sem,Nat.reduceLT,Nat.reduceEqDiff,hp]
  refine au.aV ?_
  simp -implicitDefEqProofs only[↓reduceIte,go_sem,Nat.reduceLT,Nat.reduceEqDiff]
def kB(k:Int):az:= .box 3 1 0 1 [iA k]
def iY(r:Nat×ak):List D:=[.v (.int .i64 r.1),.v (.int .i64 r.2.kind),.v (.int .i64 r.2.i),.v (.string r.2.s)]
def zg(r:Nat×ak):AV:= .agg [iA r.1,iA r.2.kind,iA r.2.i,sA r.2.s]
def zR:Nat×ak:=(0,zV)
def dq(R:List (Nat×ak)):Nat×ak:=R.getLast?.getD zR
def gU(R:List (Nat×ak))(v:ak):List (Nat×ak):=if R≠[]∧(dq R).2=v then R.dropLast++[((dq R).1+1,v)]else R++[(1,v)]
def ee(l:List ak):List (Nat×ak):=l.foldl gU []
theorem kp(l:List ak)(k:Nat)(h:k<l.length):ee (l.take (k+1))=gU (ee (l.take k)) l[k]:=by
 unfold ee
 rw[List.take_succ_eq_append_getElem h,List.foldl_append];rfl
theorem AS(R:List (Nat×ak))(v:ak):(gU R v).length≤R.length+1:=by
 unfold gU
 split
 ·rw[List.length_append,List.length_dropLast,List.length_singleton];omega
 ·simp
theorem qx(l:List ak):∀k,(ee (l.take k)).length≤k:=by
 intro k
 induction k with
 |zero=>simp[ee]
 |succ k ih=>
  rcases Nat.lt_or_ge k l.length with h|h
  ·rw[kp l k h]
   have:=AS (ee (l.take k)) l[k]
   omega
  ·rw[List.take_of_length_le (by omega)]
   rw[List.take_of_length_le h]at ih
   omega
theorem Bw{R:List (Nat×ak)}{k:Nat}(h:∀r∈R,r.1≤k)(v:ak):∀r∈gU R v,r.1≤k+1:=by
 intro r hr
 unfold gU at hr
 split at hr
 ·rename_i hc
  rcases List.mem_append.1 hr with hr|hr
  ·have:=h r (List.dropLast_subset R hr);omega
  ·simp at hr
   have hm:dq R∈R:=by
    unfold dq
    rw[List.getLast?_eq_getElem?]
    have hp:0<R.length:=List.length_pos_iff.2 hc.1
    rw[List.getElem?_eq_getElem (by omega)]
    exact List.getElem_mem _
   have:=h _ hm
   rw[hr];simp only;omega
 ·rcases List.mem_append.1 hr with hr|hr
  ·have:=h r hr;omega
  ·simp at hr;rw[hr];simp
theorem qj(l:List ak):∀k,∀r∈ee (l.take k),r.1≤k:=by
 intro k
 induction k with
 |zero=>intro r hr;simp[ee]at hr
 |succ k ih=>
  rcases Nat.lt_or_ge k l.length with h|h
  ·rw[kp l k h]
   exact Bw ih _
  ·rw[List.take_of_length_le (by omega)]
   rw[List.take_of_length_le h]at ih
   intro r hr
   have:=ih r hr;omega
theorem zf(R:List (Nat×ak))(G:aa)(id ver:Nat)(hl:R.length≤1000000000000)(h:G[id]?=some (.arr 198 4 ver (R.map iY))):
  ag Tryz.prog 167 [.sl id ver 0 R.length] G (.ok (.aZ [zg (dq R),bA (decide (R≠[]))])) G:=by
 have hlt:=ai h
 refine ag.cC (hint:=fun _=>false) Tryz.func167 (by kernel_rfl) rfl [.cell 2 198,.tmp 3] (by kernel_rfl) (by simp[Tryz.ntmps167]) ?_
 rw[Tryz.ntmps167]
 by_cases h0:R=[]
 ·subst h0
  simp only[List.length_nil,List.map_nil]at h⊢
  simp -implicitDefEqProofs only[↓reduceIte,go_sem,ab,an,Nat.reduceAdd,Nat.reduceLT,Nat.reduceEqDiff,reduceCtorEq,h,List.getElem?_append_left hlt,List.length_nil]
  refine cN.ret ?_
  simp -implicitDefEqProofs only[↓reduceIte,go_sem,ab,Nat.reduceAdd,Nat.reduceLT,Nat.reduceLeDiff,Nat.reduceEqDiff,bI,cO,zg,dq,zR,zV,jK,List.getLast?_nil,Option.getD_none]
 ·have hpos:0<R.length:=List.length_pos_iff.2 h0
  obtain⟨n,hn⟩:∃n,R.length=n+1:=⟨R.length-1,by omega⟩
  have hget:R[n]?=some (dq R):=by
   unfold dq
   rw[List.getLast?_eq_getElem?,hn,Nat.add_sub_cancel,List.getElem?_eq_getElem (by omega)]
   rfl
  generalize hm:R.length=m at*
  have hw:IntKind.i64.wrap ((m:Int)-1)=(n:Int):=by rw[wrap64_in _ (by omega) (by omega)];omega
  generalize dq R=q at*
  simp -implicitDefEqProofs only[↓reduceIte,go_sem,ab,an,Nat.reduceAdd,Nat.reduceLT,Nat.reduceEqDiff,reduceCtorEq,h,List.getElem?_append_left hlt,hw,hget,show((m:Int)=0)=False from eq_false (by omega),show((n:Int)<(m:Int))=True from eq_true (by omega),show((0:Int)≤(n:Int))=True from eq_true (by omega),Option.map_some,iY,List.take_succ_cons,List.take_zero,List.map_cons,List.map_nil,List.length_cons,List.length_nil]
  refine cN.ret ?_
  simp -implicitDefEqProofs only[↓reduceIte,go_sem,ab,Nat.reduceAdd,Nat.reduceLT,Nat.reduceLeDiff,Nat.reduceEqDiff,bI,cO,zg,h0,not_false_eq_true,decide_true]
theorem A3{R:List (Nat×ak)}{v:ak}(h:¬(R≠[]∧(dq R).2=v)):(gU R v).map iY=R.map iY++[[.v (.int .i64 1),.v (.int .i64 v.kind),.v (.int .i64 v.i),.v (.string v.s)]]:=by
 unfold gU
 rw[if_neg h]
 simp[iY]
theorem CG{R:List (Nat×ak)}{v:ak}{n:Nat}(h:R≠[]∧(dq R).2=v)(hn:R.length=n+1):R[n]?=some (dq R)∧
  (R.map iY).set n [.v (.int .i64 (((dq R).1+1:Nat):Int)),.v (.int .i64 v.kind),.v (.int .i64 v.i),.v (.string v.s)]=(gU R v).map iY∧(gU R v).length=n+1:=by
 have hg:R[n]?=some (dq R):=by
  unfold dq
  rw[List.getLast?_eq_getElem?,hn,Nat.add_sub_cancel,List.getElem?_eq_getElem (by omega)]
  rfl
 refine⟨hg,?_,?_⟩
 ·unfold gU
  rw[if_pos h]
  have hd:R=R.dropLast++[dq R]:=by
   rw[List.dropLast_eq_take,hn,Nat.add_sub_cancel]
   conv=>lhs;rw[←List.take_append_drop n R]
   obtain⟨h1,h2⟩:=List.getElem?_eq_some_iff.1 hg
   rw[List.drop_eq_getElem_cons h1,h2,List.drop_eq_nil_of_le (by omega)]
  have hl:R.dropLast.length=n:=by rw[List.length_dropLast,hn];rfl
  generalize dq R=q at*
  rw[List.map_append]
  generalize R.dropLast=D at*
  subst hd
  rw[List.map_append,List.set_append_right n _ (by rw[List.length_map,hl];exact Nat.le_refl _),List.length_map,hl,Nat.sub_self]
  rfl
 ·unfold gU
  rw[if_pos h,List.length_append,List.length_dropLast,hn];rfl
theorem yR(l:List ak)(nn:Bool)(hl:l.length≤1000000000)(H:aa):
  ag Tryz.prog 143 [.d (.list nn (l.map ak.enc))] H (.ok (.d (.list false ((ee l).map iY)))) H:=by
 have hlen:=qx l
 have hcnt:=qj l
 refine ag.aj (hint:=(fun _=>false)) Tryz.func143 (by kernel_rfl) rfl [2] (by kernel_rfl) (by decide) (by simp[Tryz.ntmps143]) ?_
 rw[Tryz.ntmps143]
 simp -implicitDefEqProofs only[↓reduceIte,go_sem,Nat.reduceLT,reduceCtorEq]
 refine aO (fun k s H'=>∃ver,H'=H++[.arr 198 4 ver ((ee (l.take k)).map iY)]∧s 3= .sl H.length ver 0 (ee (l.take k)).length∧s 8= .d (.list nn (l.map ak.enc))∧s 9=iA l.length∧s 10=iA k) l.length (by omega) (al.gB _ _ 3 198 4 (by decide) (by simp -implicitDefEqProofs only[↓reduceIte,go_sem,Nat.reduceLT,Nat.reduceEqDiff]) _) ?_ ?_ ?_
 ·refine⟨0,rfl,?_⟩
  simp -implicitDefEqProofs only[↓reduceIte,go_sem,Nat.reduceLT,Nat.reduceEqDiff]
  rfl
 ·rintro k s H' hk hw ⟨ver,rfl,t3,t8,t9,t10⟩
  have hx:=List.getElem?_eq_getElem hk
  have e1:=kp l k hk
  have hR:=hlen k
  have hC:=hcnt k
  rw[e1]
  generalize l[k]=v at*
  generalize ee (l.take k)=R at*
  have hld:=zf R (H++[.arr 198 4 ver (R.map iY),.box 69 3 0 1 [iA v.kind,iA v.i,sA v.s]]) H.length ver (by omega) (by simp)
  simp -implicitDefEqProofs only[↓reduceIte,go_sem,an,Nat.reduceAdd,Nat.reduceLT,Nat.reduceEqDiff,t3,t8,t9,t10,hk,hx,ak.enc]
  refine ae.ok hld ?_
  by_cases hc:R≠[]∧(dq R).2=v
  ·obtain⟨n,hn⟩:∃n,R.length=n+1:=⟨R.length-1,by have:=List.length_pos_iff.2 hc.1;omega⟩
   obtain⟨a1,a2,a3⟩:=CG hc hn
   rw[a3]
   rw[hn]at t3
   have h1:=hc.1
   have h2:=hc.2
   generalize dq R=q at*
   obtain⟨m,w⟩:=q
   simp only at h2 a2
   subst h2
   have hm:=hC _ (List.mem_of_getElem? a1)
   simp only at hm
   have w1:IntKind.i64.wrap ((m:Int)+1)=((m+1:Nat):Int):=by rw[wrap64_in _ (by omega) (by omega)];rfl
   generalize hz:n+1=z at*
   have w2:IntKind.i64.wrap ((z:Int)-1)=(n:Int):=by rw[wrap64_in _ (by omega) (by omega)];omega
   generalize hy:((m+1:Nat):Int)=y at*
   generalize (gU R w).map iY=R2 at*
   simp -implicitDefEqProofs only[↓reduceIte,go_sem,ab,an,Nat.reduceAdd,Nat.reduceLT,Nat.reduceLeDiff,Nat.reduceEqDiff,zg,ne_eq,h1,not_false_eq_true,decide_true,ni,t3,hn,w2,show((n:Int)<(z:Int))=True from eq_true (by omega),show((0:Int)≤(n:Int))=True from eq_true (by omega),a1,Option.map_some,iY,List.take_succ_cons,List.take_zero,List.map_cons,List.map_nil,List.length_cons,List.length_nil,w1,List.drop_succ_cons,List.drop_zero,a2]
   simp -implicitDefEqProofs only[↓reduceIte,go_sem,Nat.reduceLT,t10]
   refine c7.cut [.arr 198 4 ver R2] [.box 69 3 0 1 [iA w.kind,iA w.i,sA w.s],.box 198 4 0 1 [iA m,iA w.kind,iA w.i,sA w.s]] 1 rfl rfl (by simp -implicitDefEqProofs only[go_sem]) ?_
   refine⟨ver,rfl,?_⟩
   simp -implicitDefEqProofs only[↓reduceIte,go_sem,Nat.reduceLT,Nat.reduceEqDiff,t3,t8,t9,hw]
  ·have a1:=A3 hc
   have a2:(gU R v).length=R.length+1:=by unfold gU;rw[if_neg hc,List.length_append];rfl
   rw[a2]
   by_cases h1:R=[]
   ·subst h1
    generalize (gU [] v).map iY=R2 at*
    simp only[List.length_nil,List.map_nil,List.nil_append]at a1 t3⊢
    subst a1
    simp -implicitDefEqProofs only[↓reduceIte,go_sem,ab,an,Nat.reduceAdd,Nat.reduceLT,Nat.reduceLeDiff,Nat.reduceEqDiff,reduceCtorEq,zg,dq,zR,zV,jK,List.getLast?_nil,Option.getD_none,ne_eq,not_true_eq_false,decide_false,t3,List.length_nil]
    simp -implicitDefEqProofs only[↓reduceIte,go_sem,Nat.reduceLT,t10]
    refine c7.cut [.arr 198 4 (ver+1) [[.v (.int .i64 1),.v (.int .i64 v.kind),.v (.int .i64 v.i),.v (.string v.s)]]] [.box 69 3 0 1 [iA v.kind,iA v.i,sA v.s],.box 198 4 0 1 [iA 0,iA 0,iA 0,sA ⟨#[]⟩]] 1 rfl rfl (by simp -implicitDefEqProofs only[go_sem]) ?_
    refine⟨ver+1,rfl,?_⟩
    simp -implicitDefEqProofs only[↓reduceIte,go_sem,Nat.reduceLT,Nat.reduceEqDiff,t8,t9,hw]
   ·have h2:¬(dq R).2=v:=fun h=>hc ⟨h1,h⟩
    generalize dq R=q at*
    obtain⟨m,w⟩:=q
    simp only at h2
    generalize (gU R v).map iY=R2 at*
    subst a1
    simp -implicitDefEqProofs only[↓reduceIte,go_sem,ab,an,Nat.reduceAdd,Nat.reduceLT,Nat.reduceLeDiff,Nat.reduceEqDiff,zg,ne_eq,h1,not_false_eq_true,decide_true,ni,h2,decide_false,t3,List.length_map]
    refine⟨by omega,by omega,?_⟩
    simp -implicitDefEqProofs only[↓reduceIte,go_sem,Nat.reduceLT,t10]
    refine c7.cut [.arr 198 4 (ver+1) (R.map iY++[[.v (.int .i64 1),.v (.int .i64 v.kind),.v (.int .i64 v.i),.v (.string v.s)]])] [.box 69 3 0 1 [iA v.kind,iA v.i,sA v.s],.box 198 4 0 1 [iA m,iA w.kind,iA w.i,sA w.s]] 1 rfl rfl (by simp -implicitDefEqProofs only[go_sem]) ?_
    refine⟨ver+1,rfl,?_⟩
    simp -implicitDefEqProofs only[↓reduceIte,go_sem,Nat.reduceLT,Nat.reduceEqDiff,t8,t9,hw]
 ·rintro s H' ⟨ver,rfl,t3,t8,t9,t10⟩
  rw[List.take_length]at t3
  rw[List.take_length]
  simp -implicitDefEqProofs only[↓reduceIte,go_sem,Nat.reduceLT,Nat.reduceEqDiff,t3,t9,t10]
  refine au.ret ?_
  simp -implicitDefEqProofs only[↓reduceIte,go_sem,Nat.reduceLT,List.take_of_length_le (show((ee l).map iY).length≤(ee l).length by rw[List.length_map];exact Nat.le_refl _)]
theorem Au{R:List (Nat×ak)}{p:ak→Prop}(h:∀r∈R,p r.2){v:ak}(hv:p v):∀r∈gU R v,p r.2:=by
 intro r hr
 unfold gU at hr
 split at hr
 ·rcases List.mem_append.1 hr with hr|hr
  ·exact h r (List.dropLast_subset R hr)
  ·simp at hr;rw[hr];exact hv
 ·rcases List.mem_append.1 hr with hr|hr
  ·exact h r hr
  ·simp at hr;rw[hr];exact hv
theorem qu{p:ak→Prop}:∀(l:List ak) (R:List (Nat×ak)),(∀v∈l,p v)→(∀r∈R,p r.2)→∀r∈l.foldl gU R,p r.2
 |[],R,_,h=>h
 |v::l,R,hl,h=>qu l _ (fun x hx=>hl x (by simp[hx])) (Au h (hl v (by simp)))
theorem y3{p:ak→Prop}{l:List ak}(h:∀v∈l,p v):∀r∈ee l,p r.2:=qu l [] h (by simp)
def zv(r:Nat×ak):List Nat:=cy r.1++gD r.2
def lR(R:List (Nat×ak)):List Nat:=R.flatMap zv
def Ca(l:List ak)(k:Int):List Nat:=if a7 l k=0 then lR (ee l)else[]
theorem pP(R:List (Nat×ak))(r:Nat×ak):lR (R++[r])=lR R++zv r:=by simp[lR]
theorem pt(l:List ak)(k:Int)(hok:∀v∈l,jU v.i)(H:aa)(hl:l.length≤1000000000):
  ag Tryz.prog 114 [.d (.list false (l.map ak.enc)),iA k] H (.ok (.aZ [.d (.list false (dF (Ca l k))),iA (a7 l k)])) H:=by
 by_cases hp:a7 l k=0
 ·rw[show Ca l k=lR (ee l)from if_pos hp]
  have hmay:=kx hp
  have h4:=iN hp
  have hrd:=fun H=>yR l false hl H
  have hRl:=qx l l.length
  have hRc:=qj l l.length
  rw[List.take_length]at hRl hRc
  have hRv:=y3 (p:=fun v=>jU v.i∧eK v=true) (l:=l) fun v hv=>⟨hok v hv,hmay v hv⟩
  generalize ee l=R at*
  have hone:∀r∈R,(zv r).length≤1050:=fun r hr=>by
   have h1:=eC 10 r.1 (by have:=hRc r hr;omega)
   have h2:=jo (hRv r hr).1 (hRv r hr).2
   unfold zv
   rw[List.length_append];omega
  have hWb:∀k,k≤R.length→(lR (R.take k)).length≤k* 1050:=by
   intro k
   induction k with
   |zero=>intro _;simp[lR]
   |succ k ih=>
    intro hk
    have hk':k<R.length:=by omega
    rw[List.take_succ_eq_append_getElem hk',pP,List.length_append]
    have h1:=ih (by omega)
    have h2:=hone _ (List.getElem_mem hk')
    omega
  refine ag.aj (hint:=(fun _=>false)) Tryz.func114 (by kernel_rfl) rfl [4,5] (by kernel_rfl) (by decide) (by simp[Tryz.ntmps114]) ?_
  rw[Tryz.ntmps114]
  simp -implicitDefEqProofs only[↓reduceIte,go_sem,Nat.reduceLT,Nat.reduceEqDiff,reduceCtorEq]
  refine ae.ok (dd l k false _ (by omega)) ?_
  rw[hp]
  simp -implicitDefEqProofs only[↓reduceIte,go_sem,Nat.reduceLT,reduceCtorEq]
  refine ae.ok (hrd _) ?_
  simp -implicitDefEqProofs only[↓reduceIte,go_sem,Nat.reduceLT]
  refine aO (fun j s H'=>∃ver,H'=H++[.arr 5 1 ver (dF (lR (R.take j)))]∧s 7= .sl H.length ver 0 (lR (R.take j)).length∧s 19= .d (.list false (R.map iY))∧s 20=iA R.length∧s 21=iA j) R.length (by omega) (al.gB _ _ 7 5 1 (by decide) (by simp -implicitDefEqProofs only[↓reduceIte,go_sem,Nat.reduceLT,Nat.reduceEqDiff]) _) ?_ ?_ ?_
  ·refine⟨0,rfl,?_⟩
   simp -implicitDefEqProofs only[↓reduceIte,go_sem,Nat.reduceLT,Nat.reduceEqDiff]
   rfl
  ·rintro j s H' hj hw ⟨ver,rfl,t7,t19,t20,t21⟩
   have hx:=List.getElem?_eq_getElem hj
   have hm:=List.getElem_mem hj
   have hb:=hWb j (by omega)
   have hrl:=hone _ hm
   have hc:=hRc _ hm
   have hv:=hRv _ hm
   have e1:lR (R.take (j+1))=lR (R.take j)++(cy (R[j]).1++gD (R[j]).2):=by rw[List.take_succ_eq_append_getElem hj,pP,zv]
   unfold zv at hrl
   rw[List.length_append]at hrl
   rw[e1]
   generalize lR (R.take j)=B at*
   generalize R[j]=r at*
   obtain⟨m,w⟩:=r
   simp only at hrl hc hv⊢
   have hvd:=fun H=>gp w hv.1 hv.2 H
   have wm:=cL m (by omega)
   simp -implicitDefEqProofs only[↓reduceIte,go_sem,ab,an,Nat.reduceAdd,Nat.reduceLT,Nat.reduceEqDiff,t19,t20,t21,hj,hx,iY]
   refine ae.ok (hvd _) ?_
   simp -implicitDefEqProofs only[↓reduceIte,go_sem,ab,Nat.reduceAdd,Nat.reduceLT,Nat.reduceLeDiff,Nat.reduceEqDiff,t7,wm]
   refine ae.ok (nK m (by omega) _) ?_
   simp -implicitDefEqProofs only[↓reduceIte,go_sem,Nat.reduceLT,Nat.reduceEqDiff,fS,bF,iC]
   have hpm:=eC 10 m (by omega)
   refine⟨by omega,by omega,by omega,by omega,?_⟩
   simp -implicitDefEqProofs only[↓reduceIte,go_sem,Nat.reduceLT,t21]
   refine c7.cut [.arr 5 1 (ver+1+1) (dF (B++(cy m++gD w)))] [.box 198 4 0 1 [iA m,iA w.kind,iA w.i,sA w.s]] 1 rfl rfl (by simp -implicitDefEqProofs only[go_sem]) ?_
   refine⟨ver+1+1,rfl,?_⟩
   simp -implicitDefEqProofs only[↓reduceIte,go_sem,Nat.reduceAdd,Nat.reduceLT,Nat.reduceEqDiff,t19,t20,hw,Nat.add_assoc]
  ·rintro s H' ⟨ver,rfl,t7,t19,t20,t21⟩
   rw[show R.take R.length=R from List.take_length]at*
   simp -implicitDefEqProofs only[↓reduceIte,go_sem,Nat.reduceLT,Nat.reduceEqDiff,t7,t20,t21]
   refine au.ret ?_
   simp -implicitDefEqProofs only[↓reduceIte,go_sem,Nat.reduceLT,Nat.reduceEqDiff,List.take_of_length_le (Nat.le_of_eq (bF (lR R)))]
 ·rw[show Ca l k=[]from if_neg hp]
  refine ag.jX (cs:=[.d (.v (.slice none 0 0)),iA (a7 l k)]) ?_ (.cons .nil (.cons (.refl _) .nil))
  refine ag.aj (hint:=(fun _=>false)) Tryz.func114 (by kernel_rfl) rfl [4,5] (by kernel_rfl) (by decide) (by simp[Tryz.ntmps114]) ?_
  rw[Tryz.ntmps114]
  simp -implicitDefEqProofs only[↓reduceIte,go_sem,Nat.reduceLT,Nat.reduceEqDiff,reduceCtorEq]
  refine ae.ok (dd l k false _ (by omega)) ?_
  simp -implicitDefEqProofs only[↓reduceIte,go_sem,Nat.reduceLT,Nat.reduceEqDiff,hp]
  refine au.aV ?_
  simp -implicitDefEqProofs only[↓reduceIte,go_sem,Nat.reduceLT,Nat.reduceEqDiff]
def kg(id:Nat)(k:Int):List (Int×AV):=
 [(1,.agg [.fn 109 [.ptr id 0 0 0],.fn 111 [.ptr id 0 0 0]]),(2,.agg [.fn 113 [.ptr id 0 0 0],.fn 115 [.ptr id 0 0 0]]),(3,.agg [.fn 117 [.ptr id 0 0 0],.fn 119 [.ptr id 0 0 0]])]++
 if k=1 then[(4,.agg [.fn 121 [],.fn 122 []])]else[]
theorem eB(k:Int)(H:aa):ag Tryz.prog 95 [iA k] H (.ok (.mp (H.length+1))) (H++[kB k,.mp .i64 (kg H.length k)]):=by
 by_cases h:k=1
 ·subst h
  have hM:kg H.length 1=[(1,.agg [.fn 109 [.ptr H.length 0 0 0],.fn 111 [.ptr H.length 0 0 0]]),(2,.agg [.fn 113 [.ptr H.length 0 0 0],.fn 115 [.ptr H.length 0 0 0]]),(3,.agg [.fn 117 [.ptr H.length 0 0 0],.fn 119 [.ptr H.length 0 0 0]]),(4,.agg [.fn 121 [],.fn 122 []])]:=by unfold kg;rw[if_pos rfl];rfl
  rw[hM]
  refine ag.aj (hint:=(fun _=>false)) Tryz.func95 (by kernel_rfl) rfl [2] (by kernel_rfl) (by decide) (by simp[Tryz.ntmps95]) ?_
  rw[Tryz.ntmps95]
  simp -implicitDefEqProofs only[↓reduceIte,go_sem,ab,Nat.reduceAdd,Nat.reduceLT,Nat.reduceLeDiff,Nat.reduceEqDiff,Int.reduceEq,jA,eR]
  unfold kB
  exact⟨_,al.refl _ _,by simp -implicitDefEqProofs only[↓reduceIte,go_sem,Nat.reduceLT]⟩
 ·have hM:kg H.length k=[(1,.agg [.fn 109 [.ptr H.length 0 0 0],.fn 111 [.ptr H.length 0 0 0]]),(2,.agg [.fn 113 [.ptr H.length 0 0 0],.fn 115 [.ptr H.length 0 0 0]]),(3,.agg [.fn 117 [.ptr H.length 0 0 0],.fn 119 [.ptr H.length 0 0 0]])]:=by unfold kg;rw[if_neg h];rfl
  rw[hM]
  refine ag.aj (hint:=(fun _=>false)) Tryz.func95 (by kernel_rfl) rfl [2] (by kernel_rfl) (by decide) (by simp[Tryz.ntmps95]) ?_
  rw[Tryz.ntmps95]
  simp -implicitDefEqProofs only[↓reduceIte,go_sem,ab,Nat.reduceAdd,Nat.reduceLT,Nat.reduceLeDiff,Nat.reduceEqDiff,Int.reduceEq,jA,eR,h]
  unfold kB
  exact⟨_,al.refl _ _,by simp -implicitDefEqProofs only[↓reduceIte,go_sem,Nat.reduceLT]⟩
theorem pH(l:List ak)(k:Int)(hok:∀v∈l,jU v.i)(hl:l.length≤1000000000)(G:aa)(id:Nat)(h:G[id]?=some (kB k)):
  ag Tryz.prog 109 [.d (.list false (l.map ak.enc)),.ptr id 0 0 0] G (.ok (.aZ [.d (.list false (dF (nP l k))),iA (a7 l k)])) G:=by
 have hd:=fun H=>mQ l k hok H (by omega)
 unfold kB at h
 refine ag.aj (hint:=(fun _=>false)) Tryz.func109 (by kernel_rfl) rfl [3,4] (by kernel_rfl) (by decide) (by simp[Tryz.ntmps109]) ?_
 rw[Tryz.ntmps109]
 simp -implicitDefEqProofs only[↓reduceIte,go_sem,ab,Nat.reduceLT,Nat.reduceEqDiff,reduceCtorEq,h]
 refine ae.ok (hd _) ?_
 simp -implicitDefEqProofs only[↓reduceIte,go_sem,Nat.reduceLT,Nat.reduceEqDiff]
 refine au.aV ?_
 simp -implicitDefEqProofs only[↓reduceIte,go_sem,Nat.reduceLT,Nat.reduceEqDiff]
theorem rv(l:List ak)(k:Int)(hok:∀v∈l,jU v.i)(hl:l.length≤1000000000)(G:aa)(id:Nat)(h:G[id]?=some (kB k)):
  ag Tryz.prog 117 [.d (.list false (l.map ak.enc)),.ptr id 0 0 0] G (.ok (.aZ [.d (.list false (dF (n8 l k))),iA (a7 l k)])) G:=by
 have hd:=fun H=>nF l k hok H (by omega)
 unfold kB at h
 refine ag.aj (hint:=(fun _=>false)) Tryz.func117 (by kernel_rfl) rfl [3,4] (by kernel_rfl) (by decide) (by simp[Tryz.ntmps117]) ?_
 rw[Tryz.ntmps117]
 simp -implicitDefEqProofs only[↓reduceIte,go_sem,ab,Nat.reduceLT,Nat.reduceEqDiff,reduceCtorEq,h]
 refine ae.ok (hd _) ?_
 simp -implicitDefEqProofs only[↓reduceIte,go_sem,Nat.reduceLT,Nat.reduceEqDiff]
 refine au.aV ?_
 simp -implicitDefEqProofs only[↓reduceIte,go_sem,Nat.reduceLT,Nat.reduceEqDiff]
theorem uU(l:List ak)(k:Int)(hok:∀v∈l,jU v.i)(hl:l.length≤1000000000)(G:aa)(id:Nat)(h:G[id]?=some (kB k)):
  ag Tryz.prog 113 [.d (.list false (l.map ak.enc)),.ptr id 0 0 0] G (.ok (.aZ [.d (.list false (dF (Ca l k))),iA (a7 l k)])) G:=by
 have hd:=fun H=>pt l k hok H (by omega)
 unfold kB at h
 refine ag.aj (hint:=(fun _=>false)) Tryz.func113 (by kernel_rfl) rfl [3,4] (by kernel_rfl) (by decide) (by simp[Tryz.ntmps113]) ?_
 rw[Tryz.ntmps113]
 simp -implicitDefEqProofs only[↓reduceIte,go_sem,ab,Nat.reduceLT,Nat.reduceEqDiff,reduceCtorEq,h]
 refine ae.ok (hd _) ?_
 simp -implicitDefEqProofs only[↓reduceIte,go_sem,Nat.reduceLT,Nat.reduceEqDiff]
 refine au.aV ?_
 simp -implicitDefEqProofs only[↓reduceIte,go_sem,Nat.reduceLT,Nat.reduceEqDiff]
def xF(a b:ak):Nat:=jB (IntKind.i64.wrap (b.i-a.i))
def cI(l:List ak):List Nat:=List.zipWith xF l l.tail
theorem kD(l:List ak):(cI l).length=l.length-1:=by simp[cI]
theorem nq(l:List ak)(k:Nat)(h:k+1<l.length):(cI l)[k]?=some (xF l[k] l[k+1]):=by
 simp[cI,List.getElem?_zipWith,List.getElem?_tail,h,show k<l.length by omega]
theorem A7(a b:ak):xF a b<18446744073709551616:=m7 (ij _).1 (ij _).2
theorem zB(l:List ak):∀n∈cI l,n<18446744073709551616:=by
 intro n hn
 obtain⟨k,hk⟩:=List.getElem?_of_mem hn
 have hlt:=(List.getElem?_eq_some_iff.1 hk).1
 rw[kD]at hlt
 rw[nq l k (by omega)]at hk
 cases hk
 exact A7 _ _
theorem v8(l:List ak)(k:Nat)(h:k+1<l.length):(cI l).take (k+1)=(cI l).take k++[xF l[k] l[k+1]]:=by
 rw[List.take_add_one,nq l k h];rfl
theorem vZ(l:List ak)(nn:Bool)(H:aa)(hl:l.length≤1000000000000):ag Tryz.prog 152 [.d (.list nn (l.map ak.enc))] H (.ok (.d (.list false (us (cI l))))) H:=by
 have hsl:=kD l
 refine ag.aj (hint:=(fun _=>false)) Tryz.func152 (by kernel_rfl) rfl [2] (by kernel_rfl) (by decide) (by simp[Tryz.ntmps152]) ?_
 rw[Tryz.ntmps152]
 simp -implicitDefEqProofs only[go_sem]
 refine bj (fun k s H'=>H'=H++[.arr 54 1 k (us ((cI l).take k))]∧s 0= .d (.list nn (l.map ak.enc))∧s 3= .sl H.length k 0 k∧s 4=iA ((k:Int)+1)) (l.length-1) (by omega) (al.gB _ _ 3 54 1 (by decide) (by simp -implicitDefEqProofs only[↓reduceIte,go_sem,Nat.reduceLT,Nat.reduceEqDiff]) _) ?_ ?_ ?_
 ·refine⟨?_,?_⟩
  ·simp -implicitDefEqProofs only[go_sem,List.take_zero,EO]
  ·simp -implicitDefEqProofs only[↓reduceIte,go_sem,Nat.reduceLT,Nat.reduceEqDiff,Int.reduceAdd,reduceCtorEq]
 ·rintro k s H' hk hw ⟨rfl,t0,t3,t4⟩
  have hk1:k<l.length:=by omega
  have hk2:k+1<l.length:=by omega
  have hx:=List.getElem?_eq_getElem hk1
  have hy:=List.getElem?_eq_getElem hk2
  have hs:=v8 l k hk2
  generalize l[k]=x at hx hs
  generalize l[k+1]=y at hy hs
  have hlen:((cI l).take k).length=k:=by simp;omega
  have hw2:IntKind.i64.wrap ((k:Int)+1-1)=(k:Int):=by rw[wrap64_in _ (by omega) (by omega)];omega
  have hw3:IntKind.i64.wrap ((k:Int)+1+1)=(k:Int)+1+1:=wrap64_in _ (by omega) (by omega)
  have hc:((k:Int)+1<(l.length:Int))=True:=eq_true (by omega)
  have ht:((k:Int)+1).toNat=k+1:=by omega
  have hp:(0≤(k:Int)+1)=True:=eq_true (by omega)
  generalize (cI l).take k=L at hs hlen
  simp -implicitDefEqProofs only[↓reduceIte,go_sem,Nat.reduceLT,Nat.reduceEqDiff,reduceCtorEq,t0,t4,hc]
  refine gX 15 K.mixed (by kernel_rfl) (by kernel_rfl) ?_
  simp -implicitDefEqProofs only[↓reduceIte,go_sem,Nat.reduceAdd,Nat.reduceLT,Nat.reduceLeDiff,Nat.reduceEqDiff,reduceCtorEq,t0,t3,t4,hw2,hx,hy,ht,hp,ak.enc]
  refine ae.ok (nN _ (ij _).1 (ij _).2 _) ?_
  simp -implicitDefEqProofs only[↓reduceIte,go_sem,Nat.reduceLT,Nat.reduceLeDiff,Nat.reduceEqDiff,l7,hlen,t4,xJ]
  refine⟨by omega,by omega,c7.same ⟨?_,?_⟩⟩
  ·rw[hs];rfl
  ·simp -implicitDefEqProofs only[↓reduceIte,go_sem,Nat.reduceLT,Nat.reduceEqDiff,reduceCtorEq,t0,hw3]
   trace_state
 ·rintro s H' ⟨rfl,t0,t3,t4⟩
  have hc:(((l.length-1:Nat):Int)+1<(l.length:Int))=False:=eq_false (by omega)
  simp -implicitDefEqProofs only[↓reduceIte,go_sem,Nat.reduceLT,Nat.reduceEqDiff,reduceCtorEq,t0,t3,t4,hc]
  refine au.ret ?_
  simp -implicitDefEqProofs only[↓reduceIte,go_sem,Nat.reduceLT,cU,l7,hsl]
def vh(l:List ak):List Nat:=match l with
 |[]=>[]
 |v::_=>cy (jB v.i)++cy (fq (cI l))++fL (cI l) (fq (cI l))
def n6(l:List ak):AV:=if a7 l 1=0∧l≠[]then .aZ [.d (.list false (dF (vh l))),iA 0]else .aZ [.d (.v (.slice none 0 0)),iA (a7 l 1)]
theorem sP(l:List ak)(hok:∀v∈l,jU v.i)(nn:Bool)(H:aa)(hl:l.length≤1000000000000):ag Tryz.prog 121 [.d (.list nn (l.map ak.enc))] H (.ok (n6 l)) H:=by
 have hbad:∀b:Bool,b=true∨b=false:=by decide
 refine ag.aj (hint:=(fun _=>false)) Tryz.func121 (by kernel_rfl) rfl [2,3] (by kernel_rfl) (by decide) (by simp[Tryz.ntmps121]) ?_
 rw[Tryz.ntmps121]
 simp -implicitDefEqProofs only[↓reduceIte,go_sem,Nat.reduceLT,reduceCtorEq]
 refine ae.ok (dd l 1 nn _ (by omega)) ?_
 by_cases h1:a7 l 1=0
 ·cases l with
  |nil=>
   simp -implicitDefEqProofs only[↓reduceIte,go_sem,Nat.reduceLT,Nat.reduceEqDiff,reduceCtorEq,h1]
   refine au.aV ?_
   simp -implicitDefEqProofs only[↓reduceIte,go_sem,Nat.reduceLT,Nat.reduceEqDiff,n6,h1,Ne,not_true,and_false]
  |cons v r=>
   have hs:=kD (v::r)
   have h4:=iN h1
   have hl0:(((v::r).length:Nat):Int)=0↔False:=by simp;omega
   have hll:=hok v (by simp)
   have hss:=zB (v::r)
   simp -implicitDefEqProofs only[↓reduceIte,go_sem,Nat.reduceLT,Nat.reduceEqDiff,reduceCtorEq,h1,show(((r.length:Nat):Int)+1=0)=False from eq_false (by omega)]
   refine ae.ok (vZ (v::r) nn _ hl) ?_
   simp -implicitDefEqProofs only[↓reduceIte,go_sem,Nat.reduceLT]
   refine ae.ok (oh _ false _ (by omega) hss) ?_
   have hw64:=yJ hss
   have hfit:=tN (l:=cI (v::r))
   have hzl:=m7 hll.1 hll.2
   have hb:vh (v::r)=cy (jB v.i)++cy (fq (cI (v::r)))++fL (cI (v::r)) (fq (cI (v::r))):=rfl
   generalize fq (cI (v::r))=w at*
   generalize cI (v::r)=S at*
   simp -implicitDefEqProofs only[↓reduceIte,go_sem,Nat.reduceAdd,Nat.reduceLT,Nat.reduceLeDiff,Int.reduceLE,Int.reduceToNat,reduceCtorEq,ak.enc]
   refine ae.ok (nN _ hll.1 hll.2 _) ?_
   simp -implicitDefEqProofs only[↓reduceIte,go_sem,Nat.reduceLT]
   refine ae.ok (gb _ hzl _) ?_
   simp -implicitDefEqProofs only[↓reduceIte,go_sem,Nat.reduceLT,Nat.reduceEqDiff,cL w (by omega)]
   refine ae.ok (nK w (by omega) _) ?_
   have l1:=eC 10 (jB v.i) (by omega)
   have l2:=eC 10 w (by omega)
   simp -implicitDefEqProofs only[↓reduceIte,go_sem,Nat.reduceLT,Nat.reduceEqDiff,fS,bF,iC]
   refine⟨by omega,by omega,?_⟩
   refine ae.ok (qy S w hw64 hfit (by omega) false _) ?_
   simp -implicitDefEqProofs only[↓reduceIte,go_sem,Nat.reduceLT,Nat.reduceEqDiff,fS,bF,iC,List.length_append]
   have l3:(fL S w).length≤100000:=by
    rw[fL,gM,jS]
    have:S.length* w≤4096* 64:=Nat.mul_le_mul (by omega) hw64
    omega
   refine⟨by omega,by omega,au.ret ?_⟩
   have ht:(dF (cy (jB v.i)++(cy w++fL S w))).take ((cy (jB v.i)).length+(cy w).length+(fL S w).length)=dF (cy (jB v.i)++(cy w++fL S w)):=cU _ _ (by rw[bF,List.length_append,List.length_append];omega)
   simp -implicitDefEqProofs only[↓reduceIte,go_sem,Nat.reduceLT,Nat.reduceEqDiff,reduceCtorEq,n6,h1,hb,ht,Ne,not_false_eq_true,and_self]
 ·simp -implicitDefEqProofs only[↓reduceIte,go_sem,Nat.reduceLT,Nat.reduceEqDiff,h1]
  refine au.aV ?_
  simp -implicitDefEqProofs only[↓reduceIte,go_sem,Nat.reduceLT,Nat.reduceEqDiff,n6,h1,false_and]
def vz(l:List ak):List Nat:=if a7 l 1=0∧l≠[]then vh l else[]
def jq(l:List ak)(k w:Int):List Nat×Int:=
 if w=1 then(nP l k,a7 l k)else if w=2 then(Ca l k,a7 l k)else if w=3 then(n8 l k,a7 l k)
 else if w=4∧k=1 then(vz l,a7 l 1)else([],1)
theorem rT(l:List ak)(hok:∀v∈l,jU v.i)(nn:Bool)(H:aa)(hl:l.length≤1000000000000):ag Tryz.prog 121 [.d (.list nn (l.map ak.enc))] H (.ok (.aZ [.d (.list false (dF (vz l))),iA (a7 l 1)])) H:=by
 have h:=sP l hok nn H hl
 unfold n6 at h
 unfold vz
 by_cases c:a7 l 1=0∧l≠[]
 ·rw[if_pos c]at h⊢
  rw[c.1]
  exact h
 ·rw[if_neg c]at h⊢
  exact ag.jX h (.cons .nil (.cons (.refl _) .nil))
def vg(id:Nat)(k w:Int):Option AV:=
 if w=1 then some (.agg [.fn 109 [.ptr id 0 0 0],.fn 111 [.ptr id 0 0 0]])
 else if w=2 then some (.agg [.fn 113 [.ptr id 0 0 0],.fn 115 [.ptr id 0 0 0]])
 else if w=3 then some (.agg [.fn 117 [.ptr id 0 0 0],.fn 119 [.ptr id 0 0 0]])
 else if w=4∧k=1 then some (.agg [.fn 121 [],.fn 122 []])else none
theorem wW(id:Nat)(k w:Int):dK w (kg id k)=vg id k w:=by
 unfold kg vg
 by_cases h1:w=1
 ·subst h1;rfl
 by_cases h2:w=2
 ·subst h2;rfl
 by_cases h3:w=3
 ·subst h3;rfl
 rw[if_neg h1,if_neg h2,if_neg h3]
 by_cases hk:k=1
 ·subst hk
  by_cases h4:w=4
  ·subst h4;rfl
  ·simp[dK,eR,h1,h2,h3,h4]
 ·rw[if_neg hk,if_neg (fun h=>hk h.2)]
  simp[dK,eR,h1,h2,h3]
theorem pX(l:List ak)(k w:Int)(hok:∀v∈l,jU v.i)(hl:l.length≤1000000000)(H:aa):
  ag Tryz.prog 77 [.d (.list false (l.map ak.enc)),iA k,iA w] H (.ok (.aZ [.d (.list false (dF (jq l k w).1)),iA (jq l k w).2])) H:=by
 have hg:=fun id=>wW id k w
 unfold vg at hg
 unfold jq
 have hk:∀T:aa,((H++kB k::T):aa)[H.length]?=some (kB k):=fun T=>by simp
 by_cases h1:w=1
 ·subst h1
  simp only[if_true]at hg⊢
  refine ag.aj (hint:=(fun _=>false)) Tryz.func77 (by kernel_rfl) rfl [6,7] (by kernel_rfl) (by decide) (by simp[Tryz.ntmps77]) ?_
  rw[Tryz.ntmps77]
  simp -implicitDefEqProofs only[↓reduceIte,go_sem,Nat.reduceLT,Nat.reduceEqDiff]
  refine ae.ok (eB k _) ?_
  simp -implicitDefEqProofs only[↓reduceIte,go_sem,ab,an,Nat.reduceAdd,Nat.reduceLT,Nat.reduceLeDiff,Nat.reduceEqDiff,reduceCtorEq,hg,Option.getD_some,Option.isSome_some]
  refine ae.ok (pH l k hok hl _ H.length (hk _)) ?_
  simp -implicitDefEqProofs only[↓reduceIte,go_sem,Nat.reduceLT,Nat.reduceEqDiff]
  refine au.ret ?_
  simp -implicitDefEqProofs only[↓reduceIte,go_sem,Nat.reduceLT,Nat.reduceEqDiff]
 rw[if_neg h1]at⊢
 simp only[if_neg h1]at hg
 by_cases h2:w=2
 ·subst h2
  simp only[if_true]at hg⊢
  refine ag.aj (hint:=(fun _=>false)) Tryz.func77 (by kernel_rfl) rfl [6,7] (by kernel_rfl) (by decide) (by simp[Tryz.ntmps77]) ?_
  rw[Tryz.ntmps77]
  simp -implicitDefEqProofs only[↓reduceIte,go_sem,Nat.reduceLT,Nat.reduceEqDiff]
  refine ae.ok (eB k _) ?_
  simp -implicitDefEqProofs only[↓reduceIte,go_sem,ab,an,Nat.reduceAdd,Nat.reduceLT,Nat.reduceLeDiff,Nat.reduceEqDiff,reduceCtorEq,hg,Option.getD_some,Option.isSome_some]
  refine ae.ok (uU l k hok hl _ H.length (hk _)) ?_
  simp -implicitDefEqProofs only[↓reduceIte,go_sem,Nat.reduceLT,Nat.reduceEqDiff]
  refine au.ret ?_
  simp -implicitDefEqProofs only[↓reduceIte,go_sem,Nat.reduceLT,Nat.reduceEqDiff]
 rw[if_neg h2]at⊢
 simp only[if_neg h2]at hg
 by_cases h3:w=3
 ·subst h3
  simp only[if_true]at hg⊢
  refine ag.aj (hint:=(fun _=>false)) Tryz.func77 (by kernel_rfl) rfl [6,7] (by kernel_rfl) (by decide) (by simp[Tryz.ntmps77]) ?_
  rw[Tryz.ntmps77]
  simp -implicitDefEqProofs only[↓reduceIte,go_sem,Nat.reduceLT,Nat.reduceEqDiff]
  refine ae.ok (eB k _) ?_
  simp -implicitDefEqProofs only[↓reduceIte,go_sem,ab,an,Nat.reduceAdd,Nat.reduceLT,Nat.reduceLeDiff,Nat.reduceEqDiff,reduceCtorEq,hg,Option.getD_some,Option.isSome_some]
  refine ae.ok (rv l k hok hl _ H.length (hk _)) ?_
  simp -implicitDefEqProofs only[↓reduceIte,go_sem,Nat.reduceLT,Nat.reduceEqDiff]
  refine au.ret ?_
  simp -implicitDefEqProofs only[↓reduceIte,go_sem,Nat.reduceLT,Nat.reduceEqDiff]
 rw[if_neg h3]at⊢
 simp only[if_neg h3]at hg
 by_cases h4:w=4∧k=1
 ·simp only[if_pos h4]at hg⊢
  refine ag.aj (hint:=(fun _=>false)) Tryz.func77 (by kernel_rfl) rfl [6,7] (by kernel_rfl) (by decide) (by simp[Tryz.ntmps77]) ?_
  rw[Tryz.ntmps77]
  simp -implicitDefEqProofs only[↓reduceIte,go_sem,Nat.reduceLT,Nat.reduceEqDiff]
  refine ae.ok (eB k _) ?_
  simp -implicitDefEqProofs only[↓reduceIte,go_sem,ab,an,Nat.reduceAdd,Nat.reduceLT,Nat.reduceLeDiff,Nat.reduceEqDiff,reduceCtorEq,hg,Option.getD_some,Option.isSome_some]
  refine ae.ok (rT l hok false _ (by omega)) ?_
  simp -implicitDefEqProofs only[↓reduceIte,go_sem,Nat.reduceLT,Nat.reduceEqDiff]
  refine au.ret ?_
  simp -implicitDefEqProofs only[↓reduceIte,go_sem,Nat.reduceLT,Nat.reduceEqDiff]
 simp only[if_neg h4]at hg⊢
 refine ag.jX (cs:=[.d (.v (.slice none 0 0)),iA 1]) ?_ (.cons .nil (.cons (.refl _) .nil))
 refine ag.aj (hint:=(fun _=>false)) Tryz.func77 (by kernel_rfl) rfl [6,7] (by kernel_rfl) (by decide) (by simp[Tryz.ntmps77]) ?_
 rw[Tryz.ntmps77]
 simp -implicitDefEqProofs only[↓reduceIte,go_sem,Nat.reduceLT,Nat.reduceEqDiff]
 refine ae.ok (eB k _) ?_
 simp -implicitDefEqProofs only[↓reduceIte,go_sem,an,Nat.reduceAdd,Nat.reduceLT,Nat.reduceEqDiff,hg,Option.getD_none,Option.isSome_none]
 refine au.ret ?_
 simp -implicitDefEqProofs only[↓reduceIte,go_sem,Nat.reduceLT,Nat.reduceEqDiff]
def An(l:List ak)(k:Int)(x:Int×Int)(c:Int):Int×Int:=if(jq l k c).2=0∧(x.1<0∨((jq l k c).1.length:Int)<x.1)then((jq l k c).1.length,c)else x
def nr(l:List ak)(k:Int):Nat→Int×Int
 |0=>(-1,0)
 |n+1=>An l k (nr l k n) ((n:Int)+1)
def uo(l:List ak)(k:Int):Int:=(nr l k 4).2
theorem Aa(l:List ak)(k:Int)(hok:∀v∈l,jU v.i)(hl:l.length≤1000000000)(H:aa):
  ag Tryz.prog 76 [.d (.list false (l.map ak.enc)),iA k] H (.ok (iA (uo l k))) H:=by
 have hb:=fun w H=>pX l k w hok hl H
 have hst:∀n,nr l k (n+1)=An l k (nr l k n) ((n:Int)+1):=fun n=>rfl
 have hfin:uo l k=(nr l k 4).2:=rfl
 rw[hfin]
 have h0:nr l k 0=(-1,0):=rfl
 generalize nr l k=st at*
 refine ag.aj (hint:=(fun _=>false)) Tryz.func76 (by kernel_rfl) rfl [4] (by kernel_rfl) (by decide) (by simp[Tryz.ntmps76]) ?_
 rw[Tryz.ntmps76]
 simp -implicitDefEqProofs only[go_sem,Int.reduceNeg]
 refine bk _ _ _ _ (fun(n:Nat) s H'=>H'=H∧n≤4∧s 0= .d (.list false (l.map ak.enc))∧s 1=iA k∧s 5=iA (st n).1∧s 6=iA (st n).2∧s 7=iA ((n:Int)+1)) (fun n=>4-n) 0 (al.refl _ _) ?_ ?_
 ·refine⟨rfl,by omega,?_⟩
  rw[h0]
  simp -implicitDefEqProofs only[↓reduceIte,go_sem,Nat.reduceLT,Nat.reduceEqDiff,Int.reduceAdd,Int.reduceNeg,reduceCtorEq]
 ·rintro n s H' ⟨rfl,hn,t0,t1,t5,t6,t7⟩
  by_cases h4:n<4
  ·have hs:=hst n
   have hb1:=hb ((n:Int)+1)
   have wn:IntKind.i64.wrap ((n:Int)+1+1)=(n:Int)+1+1:=wrap64_in _ (by omega) (by omega)
   unfold An at hs
   generalize st n=x at*
   obtain⟨x1,x2⟩:=x
   simp only at hs t5 t6
   generalize hbp:jq l k ((n:Int)+1)=q at*
   obtain⟨bs,e⟩:=q
   simp only at hs hb1
   simp -implicitDefEqProofs only[↓reduceIte,go_sem,Nat.reduceLT,Nat.reduceEqDiff,reduceCtorEq,t0,t1,t7,show(((n:Int)+1)≤4)=True from eq_true (by omega)]
   refine ae.ok (hb1 _) ?_
   by_cases he:e=0
   ·by_cases h1:x1<0
    ·rw[if_pos ⟨he,.inl h1⟩]at hs
     simp -implicitDefEqProofs only[↓reduceIte,go_sem,Nat.reduceLT,Nat.reduceEqDiff,t5,t7,he,h1,bF,wn]
     refine⟨_,_,n+1,al.refl _ _,⟨rfl,by omega,?_⟩,by omega⟩
     rw[hs]
     simp -implicitDefEqProofs only[↓reduceIte,go_sem,Nat.reduceLT,Nat.reduceEqDiff,reduceCtorEq,t0,t1]
    ·by_cases h2:(bs.length:Int)<x1
     ·rw[if_pos ⟨he,.inr h2⟩]at hs
      simp -implicitDefEqProofs only[↓reduceIte,go_sem,Nat.reduceLT,Nat.reduceEqDiff,reduceCtorEq,t5,t7,he,h1,h2,bF,wn]
      refine⟨_,_,n+1,al.refl _ _,⟨rfl,by omega,?_⟩,by omega⟩
      rw[hs]
      simp -implicitDefEqProofs only[↓reduceIte,go_sem,Nat.reduceLT,Nat.reduceEqDiff,reduceCtorEq,t0,t1]
     ·rw[if_neg (fun h=>h.2.elim h1 h2)]at hs
      simp -implicitDefEqProofs only[↓reduceIte,go_sem,Nat.reduceLT,Nat.reduceEqDiff,reduceCtorEq,t5,t7,he,h1,h2,bF,wn]
      refine⟨_,_,n+1,al.refl _ _,⟨rfl,by omega,?_⟩,by omega⟩
      rw[hs]
      simp -implicitDefEqProofs only[↓reduceIte,go_sem,Nat.reduceLT,Nat.reduceEqDiff,reduceCtorEq,t0,t1,t5,t6]
   ·rw[if_neg (fun h=>he h.1)]at hs
    simp -implicitDefEqProofs only[↓reduceIte,go_sem,Nat.reduceLT,Nat.reduceEqDiff,reduceCtorEq,t7,he,wn]
    refine⟨_,_,n+1,al.refl _ _,⟨rfl,by omega,?_⟩,by omega⟩
    rw[hs]
    simp -implicitDefEqProofs only[↓reduceIte,go_sem,Nat.reduceLT,Nat.reduceEqDiff,reduceCtorEq,t0,t1,t5,t6]
  ·obtain rfl:n=4:=by omega
   simp -implicitDefEqProofs only[↓reduceIte,go_sem,Nat.reduceLT,Nat.reduceEqDiff,Int.reduceLE,Int.reduceAdd,t6,t7]
   refine au.aV ?_
   simp -implicitDefEqProofs only[↓reduceIte,go_sem,Nat.reduceLT]
def iU(l:List Bool):List (List D):=l.map fun b=>[.v (.bool b)]
theorem qE(l:List Bool):(iU l).length=l.length:=by simp[iU]
theorem vb(l:List Bool)(b:Bool):iU l++[[.v (.bool b)]]=iU (l++[b]):=by simp[iU]
end Go.Proofs.YtfklokhopcmloaaGreat
