/- Contracts of functions and lemmas for planAll_holds, part 7. -/
import Derived.Test.YtggohfhfocgilaaGreatM06
set_option maxHeartbeats 8000000
set_option maxRecDepth 100000
set_option linter.all false
namespace Go.Proofs.YtggohfhfocgilaaGreat
open Go.Proofs.YtggohfhfocgilaaGreatAw Go.RowKit
def gi(l:List Nat):Nat:=dw (l.foldl (·|||·) 0)
theorem mM{l:List Nat}(h:∀n∈l,n<18446744073709551616):∀{a:Nat},a<18446744073709551616→l.foldl (·|||·) a<18446744073709551616:=by
 induction l with
 |nil=>exact fun h=>h
 |cons x l ih=>exact fun{a} ha=>ih (fun n hn=>h n (by simp[hn])) (Nat.or_lt_two_pow (n:=64) ha (h x (by simp)))
theorem pX(l:List Nat)(nn:Bool)(H:aa)(hl:l.length≤9223372036854775807)(hu:∀n∈l,n<18446744073709551616):ag Tryz.prog 235 [.d (.list nn (us l))] H (.ok (iA (gi l))) H:=by
 refine ag.ai (hint:=(fun _=>false)) Tryz.func235 (by kernel_rfl) rfl [2] (by kernel_rfl) (by decide) (by simp[Tryz.ntmps235]) ?_
 rw[Tryz.ntmps235]
 simp -implicitDefEqProofs only[↓reduceIte,go_sem,Nat.reduceLT,reduceCtorEq,mW]
 refine aU (fun k s H'=>H'=H∧s 3=du ((l.take k).foldl (·|||·) 0)∧s 6= .d (.list nn (us l))∧s 7=iA l.length∧s 8=iA k) l.length hl (ak.refl _ _) ?_ ?_ ?_
 ·refine⟨rfl,?_⟩
  simp -implicitDefEqProofs only[↓reduceIte,go_sem,Nat.reduceLT,Nat.reduceEqDiff,List.take_zero,List.foldl_nil]
  rfl
 ·rintro k s H' hk hw ⟨rfl,t3,t6,t7,t8⟩
  have hx:=Cj l k hk
  have e1:=List.take_succ_eq_append_getElem hk
  have hb:(l.take k).foldl (·|||·) 0<18446744073709551616:=mM (fun n hn=>hu n (List.mem_of_mem_take hn)) (by decide)
  have hc:=hu _ (List.getElem_mem hk)
  have e2:(l.take (k+1)).foldl (·|||·) 0=(l.take k).foldl (·|||·) 0|||l[k]:=by rw[e1,List.foldl_append];rfl
  generalize l[k]=x at hx hc e2
  generalize (l.take k).foldl (·|||·) 0=A at*
  have hor:=si .u64 A x hb hc
  have hd:A|||x<18446744073709551616:=Nat.or_lt_two_pow (n:=64) hb hc
  simp -implicitDefEqProofs only[↓reduceIte,go_sem,Nat.reduceLT,Nat.reduceEqDiff,t3,t6,t7,t8,hk,hx,hor,c9 _ hd]
  refine cl.same ⟨rfl,?_⟩
  simp -implicitDefEqProofs only[↓reduceIte,go_sem,Nat.reduceLT,Nat.reduceEqDiff,t6,t7,hw,e2]
 ·rintro s H' ⟨rfl,t3,t6,t7,t8⟩
  simp -implicitDefEqProofs only[↓reduceIte,go_sem,Nat.reduceLT,Nat.reduceEqDiff,t3,t7,t8]
  rw[List.take_length]
  refine ae.ok (pd _ (mM hu (by decide)) _) ?_
  simp -implicitDefEqProofs only[↓reduceIte,go_sem,Nat.reduceLT]
  refine an.aI ?_
  simp -implicitDefEqProofs only[↓reduceIte,go_sem,Nat.reduceLT,gi]
def cP(n:Nat):List Nat:=if h:n<128 then[n]else(n%128+128)::cP (n/128)
termination_by n
theorem lu{n:Nat}(h:n<128):cP n=[n]:=by rw[cP];simp[h]
theorem uZ{n:Nat}(h:¬n<128):cP n=(n%128+128)::cP (n/128):=by rw[cP];simp[h]
theorem I0:∀m,m<256→m|||128=m%128+128:=by decide+kernel
theorem D0(n:Nat):IntKind.u8.wrap (G8 .u8 ((n%256:Nat):Int) 128)=((n%128+128:Nat):Int):=by
 have:=si .u8 (n%256) 128 (Nat.mod_lt _ (by decide)) (by decide)
 rw[show((128:Nat):Int)=128 from rfl]at this
 rw[this,I0 _ (Nat.mod_lt _ (by decide))]
 rw[show n%256%128=n%128 from Nat.mod_mod_of_dvd n (by decide)]
 exact rM _ (by omega) (by omega)
theorem gO(n0:Nat)(hn:n0<18446744073709551616)(H:aa):ag Tryz.prog 83 [du n0] H (.ok (.sl H.length (cP n0).length 0 (cP n0).length)) (H++[.arr 5 1 (cP n0).length (dW (cP n0))]):=by
 have s7:∀n:Nat,lE .u64 (n:Int) 7=((n/128:Nat):Int):=fun n=>uW n 7 (by decide)
 refine ag.ai (hint:=(fun _=>false)) Tryz.func83 (by kernel_rfl) rfl [2] (by kernel_rfl) (by decide) (by simp[Tryz.ntmps83]) ?_
 rw[Tryz.ntmps83]
 simp -implicitDefEqProofs only[go_sem]
 refine bu _ _ _ _ (fun(x:Nat×List Nat) s H'=>H'=H++[.arr 5 1 x.2.length (dW x.2)]∧x.1* 128^x.2.length≤n0∧(x.2.length=0∨0<x.1)∧cP n0=x.2++cP x.1∧s 0=du x.1∧s 3= .sl H.length x.2.length 0 x.2.length) (fun x=>x.1) (n0,[]) (ak.eg _ _ 3 5 1 (by decide) (by simp -implicitDefEqProofs only[↓reduceIte,go_sem,Nat.reduceLT]) _) ?_ ?_
 ·refine⟨?_,by simp,.inl rfl,by simp,?_⟩
  ·simp -implicitDefEqProofs only[go_sem,zA,List.length_nil]
  ·simp -implicitDefEqProofs only[↓reduceIte,go_sem,reduceCtorEq,List.length_nil]
 ·rintro⟨n,bs⟩ s H' ⟨rfl,h1,h3,h2,t0,t3⟩
  simp only at h1 h2 h3 t0 t3
  have hb:bs.length<10:=by
   rcases Nat.lt_or_ge bs.length 10 with h|h
   ·exact h
   ·exfalso
    have h4:128^10≤128^bs.length:=Nat.pow_le_pow_right (by decide) h
    have h5:1* 128^bs.length≤n* 128^bs.length:=Nat.mul_le_mul_right _ (by omega)
    omega
  have hnn:n≤n0:=Nat.le_trans (Nat.le_mul_of_pos_right _ (Nat.pow_pos (by decide))) h1
  by_cases hlt:(128:Int)≤(n:Int)
  ·have hpb:=D0 n
   have hp2:=uZ (n:=n) (by omega)
   generalize n%128+128=m at hpb hp2
   simp -implicitDefEqProofs only[↓reduceIte,go_sem,Nat.reduceLT,Nat.reduceLeDiff,Nat.reduceEqDiff,Int.reduceLE,reduceCtorEq,t0,t3,hlt,mP,hpb,bP,mb,s7]
   refine⟨by omega,by omega,_,_,(n/128,bs++[m]),.refl _ _,⟨?_,?_,.inr (by simp only;omega),?_,?_⟩,by simp only;omega⟩
   ·simp -implicitDefEqProofs only[go_sem,List.length_append]
   ·simp only[List.length_append,List.length_singleton,Nat.pow_succ]
    have:n/128* (128^bs.length* 128)=(n/128* 128)* 128^bs.length:=by rw[Nat.mul_comm (128^_),←Nat.mul_assoc]
    rw[this]
    exact Nat.le_trans (Nat.mul_le_mul_right _ (Nat.div_mul_le_self n 128)) h1
   ·rw[h2,hp2];simp
   ·simp -implicitDefEqProofs only[↓reduceIte,go_sem,Nat.reduceLT,Nat.reduceEqDiff,reduceCtorEq,List.length_append]
  ·have hm:n%256=n:=by omega
   simp -implicitDefEqProofs only[↓reduceIte,go_sem,Nat.reduceLT,Nat.reduceLeDiff,Nat.reduceEqDiff,reduceCtorEq,t0,t3,hlt,mP,bP,hm,mb]
   have:cP n0=bs++[n]:=by rw[h2,lu (by omega)]
   rw[this,List.length_append,List.length_singleton]
   exact⟨by omega,by omega,_,ak.refl _ _,by simp -implicitDefEqProofs only[↓reduceIte,go_sem,Nat.reduceLT]⟩
theorem pP(n0:Nat)(hn:n0<18446744073709551616)(H:aa):ag Tryz.prog 83 [du n0] H (.ok (.d (.list false (dW (cP n0))))) H:=(gO n0 hn H).list (bP _)
def byteOf:List Bool→Nat
 |[]=>0
 |b::r=>b.toNat+2* byteOf r
theorem mK:∀l:List Bool,byteOf l<2^l.length
 |[]=>by simp[byteOf]
 |b::r=>by
  have:=mK r
  simp only[byteOf,List.length_cons,Nat.pow_succ]
  cases b<;>simp<;>omega
theorem nL:∀(l:List Bool) (b:Bool),byteOf (l++[b])=byteOf l+b.toNat* 2^l.length
 |[],b=>by simp[byteOf]
 |c::r,b=>by
  simp only[List.cons_append,byteOf,nL r b,List.length_cons,Nat.pow_succ]
  rw[Nat.mul_add,←Nat.mul_assoc 2,Nat.mul_comm 2 b.toNat,Nat.mul_assoc b.toNat,Nat.mul_comm 2 (2^_)]
  omega
def eJ(l:List Bool)(i:Nat):Nat:=byteOf ((l.drop (8* i)).take 8)
def dd(l:List Bool):List Nat:=(List.range ((l.length+7)/8)).map (eJ l)
theorem iG(l:List Bool):(dd l).length=(l.length+7)/8:=by simp[dd]
def et(l:List Bool):List Nat:=(List.range (l.length/8+1)).map (eJ l)
theorem A6(l:List Bool):(et l).length=l.length/8+1:=by simp[et]
theorem pN{l:List Bool}(h:l.length%8=0):et l=dd l++[0]:=by
 unfold et dd
 rw[show(l.length+7)/8=l.length/8 by omega,List.range_succ,List.map_append]
 congr 1
 simp only[List.map_cons,List.map_nil,eJ]
 rw[List.drop_of_length_le (by omega)]
 rfl
theorem yW{l:List Bool}(h:¬l.length%8=0):et l=dd l:=by
 unfold et dd
 rw[show(l.length+7)/8=l.length/8+1 by omega]
theorem Bb(l:List Bool)(i:Nat):eJ l i<256:=by
 have h1:=mK ((l.drop (8* i)).take 8)
 have h2:((l.drop (8* i)).take 8).length≤8:=by simp;omega
 have:2^((l.drop (8* i)).take 8).length≤2^8:=Nat.pow_le_pow_right (by decide) h2
 unfold eJ;omega
theorem Ac(l:List Bool):(et l)[l.length/8]?=some (eJ l (l.length/8)):=by simp[et]
theorem nC(l:List Bool):eJ l (l.length/8)=byteOf (l.drop (8* (l.length/8))):=by
 unfold eJ
 rw[List.take_of_length_le (by simp;omega)]
theorem o9(l:List Bool):eJ l (l.length/8)<2^(l.length%8):=by
 rw[nC]
 have:=mK (l.drop (8* (l.length/8)))
 rwa[List.length_drop,show l.length-8* (l.length/8)=l.length%8 by omega]at this
theorem wI(l:List Bool)(b:Bool):dd (l++[b])=(et l).set (l.length/8) (eJ l (l.length/8)+b.toNat* 2^(l.length%8)):=by
 apply List.ext_getElem?
 intro i
 rw[List.getElem?_set]
 unfold dd et
 simp only[List.getElem?_map,List.length_append,List.length_singleton,List.length_map,List.length_range]
 rw[show(l.length+1+7)/8=l.length/8+1 by omega]
 by_cases h:l.length/8=i
 ·subst h
  rw[if_pos rfl,if_pos (by omega),List.getElem?_range (by omega)]
  simp only[Option.map_some]
  congr 1
  rw[nC]
  unfold eJ
  rw[List.drop_append_of_le_length (by omega),List.take_of_length_le (by simp;omega),nL,List.length_drop,show l.length-8* (l.length/8)=l.length%8 by omega]
 ·rw[if_neg h]
  by_cases hi:i<l.length/8+1
  ·rw[List.getElem?_range hi]
   simp only[Option.map_some]
   congr 1
   unfold eJ
   rw[List.drop_append_of_le_length (by omega),List.take_append_of_le_length (by simp;omega)]
  ·rw[List.getElem?_eq_none (by simpa using hi)]
   rfl
def fg(n w:Nat):List Bool:=(List.range w).map fun i=>n.testBit i
theorem rI(n w:Nat):(fg n w).length=w:=by simp[fg]
theorem wv(n w:Nat):fg n (w+1)=fg n w++[n.testBit w]:=by simp[fg,List.range_succ]
def wH(G:aa)(l:List Bool):aa:=G++[.box 237 2 0 1 [.sl (G.length+1) (dd l).length 0 (dd l).length,iA l.length],.arr 5 1 (dd l).length (dW (dd l))]
theorem FD(n i:Nat)(hn:n<18446744073709551616)(hi:i≤64):IntKind.u8.wrap (IntKind.u64.wrap (CL .u64 (lE .u64 (n:Int) (i:Int)) 1))=(((n.testBit i).toNat:Nat):Int):=by
 rw[uW n i hi]
 have h1:n/2^i<18446744073709551616:=Nat.lt_of_le_of_lt (Nat.div_le_self _ _) hn
 have:=CB .u64 (n/2^i) 1 h1 (by decide)
 rw[show((1:Nat):Int)=1 from rfl]at this
 rw[this,Nat.and_one_is_mod,c9 _ (by omega),rU _ (by omega),Nat.testBit_eq_decide_div_mod_eq]
 rcases Nat.mod_two_eq_zero_or_one (n/2^i)with h|h<;>rw[h]<;>rfl
theorem JZ(b:Bool)(j:Nat)(hj:j<8):IntKind.u8.wrap (xz .u8 ((b.toNat:Nat):Int) (j:Int))=((b.toNat* 2^j:Nat):Int):=by
 have h1:min j 8=j:=by omega
 have h2:2^j≤2^7:=Nat.pow_le_pow_right (by decide) (by omega)
 have h3:xz .u8 ((b.toNat:Nat):Int) (j:Int)=((b.toNat* 2^j:Nat):Int):=by
  simp only[xz,IntKind.bits,Int.toNat_natCast,h1]
  norm_cast
 rw[h3]
 refine rU _ ?_
 cases b
 ·simp
 ·simp;omega
theorem K5(x:Nat)(b:Bool)(j:Nat)(hj:j<8)(hx:x<2^j):IntKind.u8.wrap (G8 .u8 (x:Int) ((b.toNat* 2^j:Nat):Int))=((x+b.toNat* 2^j:Nat):Int):=by
 have h2:2^j≤2^7:=Nat.pow_le_pow_right (by decide) (by omega)
 have h3:b.toNat* 2^j≤2^j:=by cases b<;>simp
 rw[si .u8 x (b.toNat* 2^j) (by simp[IntKind.bits];omega) (by simp[IntKind.bits];omega)]
 have h4:x|||b.toNat* 2^j=x+b.toNat* 2^j:=by
  rw[Nat.or_comm,Nat.mul_comm,←Nat.two_pow_add_eq_or_of_lt hx]
  omega
 rw[h4]
 exact rU _ (by omega)
theorem E8(n:Nat):Int.tmod (n:Int) 8=((n%8:Nat):Int):=by rw[Int.tmod_eq_emod_of_nonneg (by omega)];rfl
theorem Jk(n:Nat):Int.tdiv (n:Int) 8=((n/8:Nat):Int):=by rw[Int.tdiv_eq_ediv_of_nonneg (by omega)];rfl
theorem rN(n w:Nat)(hw:w≤64)(hn:n<2^w)(G:aa)(l0:List Bool)(hl:l0.length≤100000000):ag Tryz.prog 168 [.ptr G.length 0 0 0,du n,iA w] (wH G l0) (.ok (iA 0)) (wH G (l0++fg n w)):=by
 have hn64:n<18446744073709551616:=Nat.lt_of_lt_of_le hn (Nat.pow_le_pow_right (by decide) hw)
 have hlen:=(eU n w).2 hn
 generalize hE:wH G (l0++fg n w)=E
 refine ag.ai (hint:=(fun _=>false)) Tryz.func168 (by kernel_rfl) rfl [6] (by kernel_rfl) (by decide) (by simp[Tryz.ntmps168]) ?_
 rw[Tryz.ntmps168]
 simp -implicitDefEqProofs only[↓reduceIte,go_sem,Nat.reduceLT,Nat.reduceEqDiff,reduceCtorEq,wH,show((w:Int)<0)=False from eq_false (by omega),show((64:Int)<(w:Int))=False from eq_false (by omega)]
 refine ae.ok (pd n hn64 _) ?_
 simp -implicitDefEqProofs only[↓reduceIte,go_sem,Nat.reduceLT,Nat.reduceEqDiff,reduceCtorEq,show(((w:Nat):Int)<((dw n:Nat):Int))=False from eq_false (by omega)]
 refine aU (fun k s H'=>H'=wH G (l0++fg n k)∧s 0= .ptr G.length 0 0 0∧s 1=du n∧s 24=iA w∧s 25=iA k) w (by omega) (ak.refl _ _) ?_ ?_ ?_
 ·refine⟨by simp[fg,wH],?_⟩
  simp -implicitDefEqProofs only[↓reduceIte,go_sem,Nat.reduceLT,Nat.reduceEqDiff,reduceCtorEq]
 ·rintro k s H' hk hw2 ⟨rfl,t0,t1,t24,t25⟩
  have hs:=wv n k
  have hL:(l0++fg n k).length=l0.length+k:=by rw[List.length_append,rI]
  have hb:=FD n k hn64 (by omega)
  have hap:l0++fg n (k+1)=(l0++fg n k)++[n.testBit k]:=by rw[hs,List.append_assoc]
  rw[hap]
  generalize n.testBit k=c at hb
  generalize l0++fg n k=l at hL⊢
  have hsn:=wI l c
  have hget:=Ac l
  have hblt:=o9 l
  have hb8:=Bb l (l.length/8)
  generalize eJ l (l.length/8)=x at hsn hget hblt hb8
  have hRl:=A6 l
  have hBl:=iG l
  have hBl2:=iG (l++[c])
  rw[List.length_append,List.length_singleton]at hBl2
  have hm8:l.length%8<8:=Nat.mod_lt _ (by decide)
  have e1:=JZ c _ hm8
  have e2:=K5 x c _ hm8 hblt
  have hRget:(dW (et l))[l.length/8]?=some [.v (.int .u8 (x:Int))]:=by simp[dW,hget]
  have hRset:(dW (et l)).set (l.length/8) [.v (.int .u8 ((x+c.toNat* 2^(l.length%8):Nat):Int))]=dW (dd (l++[c])):=by rw[Eu,hsn]
  have hRB:(et l).length=(dd (l++[c])).length:=by omega
  have hdlt:l.length/8<(et l).length:=by omega
  have hfin:G++[.box 237 2 0 1 [.sl (G.length+1) (et l).length 0 (et l).length,iA ((l.length:Int)+1)],.arr 5 1 (et l).length (dW (dd (l++[c])))]=wH G (l++[c]):=by
   unfold wH
   rw[hRB,List.length_append,List.length_singleton]
   rfl
  have hw3:IntKind.i64.wrap ((l.length:Int)+1)=(l.length:Int)+1:=wrap64_in _ (by omega) (by omega)
  have hwq:IntKind.i64.wrap ((l.length/8:Nat):Int)=((l.length/8:Nat):Int):=CU _ (by omega)
  have hwk:IntKind.u64.wrap ((k:Nat):Int)=((k:Nat):Int):=c9 _ (by omega)
  have hwm:IntKind.u64.wrap ((l.length%8:Nat):Int)=((l.length%8:Nat):Int):=c9 _ (by omega)
  generalize c.toNat* 2^(l.length%8)=y at*
  generalize x+y=z at*
  by_cases h8:l.length%8=0
  ·have hR0:dW (dd l)++[[.v (.int .u8 0)]]=dW (et l):=by rw[pN h8];exact mb _ 0
   have hR1:(dd l).length+1=(et l).length:=by rw[pN h8];simp
   simp -implicitDefEqProofs only[↓reduceIte,go_sem,ab,aq,Nat.reduceAdd,Nat.reduceLT,Nat.reduceLeDiff,Nat.reduceEqDiff,Int.reduceEq,reduceCtorEq,wH,t0,t24,t25,hk,E8,h8,bP,hR0,hR1]
   refine⟨by omega,by omega,?_⟩
   refine iF 25 K.mixed (by kernel_rfl) (by kernel_rfl) ?_
   simp -implicitDefEqProofs only[↓reduceIte,go_sem,ab,aq,Nat.reduceAdd,Nat.reduceLT,Nat.reduceLeDiff,Nat.reduceEqDiff,Int.reduceEq,reduceCtorEq,t0,t1,t25,Jk,E8,hwq,hwk,hwm,hRget,hdlt,hb,e1,e2]
   refine cl.same ⟨?_,?_⟩
   ·simp -implicitDefEqProofs only[go_sem,hRset,hw3,hfin]
   ·simp -implicitDefEqProofs only[↓reduceIte,go_sem,Nat.reduceLT,Nat.reduceEqDiff,reduceCtorEq,t0,t1,t24,hw2]
  ·have h8':(((l.length%8:Nat):Int)=0)=False:=eq_false (by omega)
   rw[yW h8]at*
   simp -implicitDefEqProofs only[↓reduceIte,go_sem,ab,Nat.reduceAdd,Nat.reduceLT,Nat.reduceEqDiff,Int.reduceEq,reduceCtorEq,wH,t0,t24,t25,hk,E8,h8']
   refine iF 25 K.mixed (by kernel_rfl) (by kernel_rfl) ?_
   simp -implicitDefEqProofs only[↓reduceIte,go_sem,ab,aq,Nat.reduceAdd,Nat.reduceLT,Nat.reduceLeDiff,Nat.reduceEqDiff,Int.reduceEq,reduceCtorEq,t0,t1,t25,Jk,E8,hwq,hwk,hwm,hRget,hdlt,hb,e1,e2]
   refine cl.same ⟨?_,?_⟩
   ·simp -implicitDefEqProofs only[go_sem,hRset,hw3,hfin]
   ·simp -implicitDefEqProofs only[↓reduceIte,go_sem,Nat.reduceLT,Nat.reduceEqDiff,reduceCtorEq,t0,t1,t24,hw2]
 ·rintro s H' ⟨rfl,t0,t1,t24,t25⟩
  simp -implicitDefEqProofs only[↓reduceIte,go_sem,Nat.reduceLT,t24,t25]
  rw[hE]
  exact⟨_,ak.refl _ _,by simp -implicitDefEqProofs only[↓reduceIte,go_sem,Nat.reduceLT]⟩
theorem vV(G:aa)(l:List Bool)(hl:l.length≤100000000):ag Tryz.prog 169 [.ptr G.length 0 0 0] (wH G l) (.ok (.d (.list false (dW (dd l))))) (wH G l):=by
 have:=iG l
 generalize hE:wH G l=E
 have hE2:=hE
 rw[wH]at hE2
 refine ag.ai (hint:=(fun _=>false)) Tryz.func169 (by kernel_rfl) rfl [2] (by kernel_rfl) (by decide) (by simp[Tryz.ntmps169]) ?_
 rw[Tryz.ntmps169]
 rw[←hE]
 simp -implicitDefEqProofs only[↓reduceIte,go_sem,ab,Nat.reduceAdd,Nat.reduceLT,Nat.reduceLeDiff,Nat.reduceEqDiff,reduceCtorEq,wH,show(dW (dd l)).take (dd l).length=dW (dd l)from b8 _ _ (bP _),gD,bP]
 refine⟨by omega,by omega,an.JK (T:=[.arr 5 1 1 (dW (dd l))]) (by simp) ?_⟩
 simp -implicitDefEqProofs only[↓reduceIte,go_sem,Nat.reduceAdd,Nat.reduceLT,show(dW (dd l)).take (dd l).length=dW (dd l)from b8 _ _ (bP _)]
def iI(l:List Nat)(w:Nat):List Bool:=l.flatMap fun n=>fg n w
def fR(l:List Nat)(w:Nat):List Nat:=dd (iI l w)
theorem wo(l:List Nat)(n w:Nat):iI (l++[n]) w=iI l w++fg n w:=by simp[iI]
theorem kv(l:List Nat)(w:Nat):(iI l w).length=l.length* w:=by
 induction l with
 |nil=>simp[iI]
 |cons x l ih=>
  have:iI (x::l) w=fg x w++iI l w:=rfl
  rw[this,List.length_append,ih,rI,List.length_cons,Nat.add_mul];omega
theorem rG(l:List Nat)(w:Nat)(hw:w≤64)(hn:∀n∈l,n<2^w)(hl:l.length≤1000000)(nn:Bool)(H:aa):
  ag Tryz.prog 231 [.d (.list nn (us l)),iA w] H (.ok (.a7 [.d (.list false (dW (fR l w))),iA 0])) H:=by
 have z0:wH H []=H++[.box 237 2 0 1 [.sl (H.length+1) 0 0 0,iA 0],.arr 5 1 0 []]:=rfl
 have h0:0<2^w:=Nat.two_pow_pos w
 have hbl:=kv l w
 have hbig:l.length* w≤1000000* 64:=Nat.mul_le_mul hl hw
 refine ag.ai (hint:=(fun t=>t==1000002||t==1000005||t==1000006)) Tryz.func231 (by kernel_rfl) rfl [4,5] (by kernel_rfl) (by decide) (by simp[Tryz.ntmps231]) ?_
 rw[Tryz.ntmps231]
 simp -implicitDefEqProofs only[↓reduceIte,go_sem,Nat.reduceAdd,Nat.reduceLT,Nat.reduceEqDiff,Nat.reduceBEq]
 refine⟨_,_,ak.df _ _ H.length 237 2 0 1 [.d (.v (.slice none 0 0)),iA 0] 0 _ 5 1 (by decide) (by simp) rfl rfl,?_⟩
 simp -implicitDefEqProofs only[↓reduceIte,go_sem,Nat.reduceLT,Nat.reduceEqDiff]
 rw[←z0]
 refine ae.ok (rN 0 w hw h0 H [] (by simp)) ?_
 simp -implicitDefEqProofs only[↓reduceIte,go_sem,Nat.reduceAdd,Nat.reduceLT,Nat.reduceEqDiff,Nat.reduceBEq]
 refine⟨_,_,(by unfold wH;exact ak.drop H _ _),?_⟩
 simp -implicitDefEqProofs only[↓reduceIte,go_sem,Nat.reduceLT]
 refine⟨_,_,ak.df _ _ H.length 237 2 0 1 [.d (.v (.slice none 0 0)),iA 0] 0 _ 5 1 (by decide) (by simp) rfl rfl,?_⟩
 simp -implicitDefEqProofs only[↓reduceIte,go_sem,reduceCtorEq,mW]
 rw[←z0]
 refine aU (fun k s H'=>H'=wH H (iI (l.take k) w)∧s 1=iA w∧s 6= .ptr H.length 0 0 0∧s 21= .d (.list nn (us l))∧s 22=iA l.length∧s 23=iA k) l.length (by omega) (ak.refl _ _) ?_ ?_ ?_
 ·refine⟨by simp[iI],?_⟩
  simp -implicitDefEqProofs only[↓reduceIte,go_sem,Nat.reduceLT,Nat.reduceEqDiff,reduceCtorEq]
 ·rintro k s H' hk hw2 ⟨rfl,t1,t6,t21,t22,t23⟩
  have hx:=Cj l k hk
  have e1:=List.take_succ_eq_append_getElem hk
  have hc:=hn _ (List.getElem_mem hk)
  have e2:iI (l.take (k+1)) w=iI (l.take k) w++fg l[k] w:=by rw[e1,wo]
  have e3:=kv (l.take k) w
  have e4:(l.take k).length* w≤1000000* 64:=Nat.mul_le_mul (by simp;omega) hw
  generalize l[k]=x at hx hc e2
  simp -implicitDefEqProofs only[↓reduceIte,go_sem,Nat.reduceAdd,Nat.reduceLT,Nat.reduceEqDiff,Nat.reduceBEq,t1,t6,t21,t22,t23,hk,hx]
  refine ae.ok (rN x w hw hc H _ (by omega)) ?_
  simp -implicitDefEqProofs only[↓reduceIte,go_sem,Nat.reduceAdd,Nat.reduceLT,Nat.reduceEqDiff,Nat.reduceBEq,t23]
  refine cl.same ⟨by rw[e2],?_⟩
  simp -implicitDefEqProofs only[↓reduceIte,go_sem,Nat.reduceLT,Nat.reduceEqDiff,t1,t6,t21,t22,hw2]
 ·rintro s H' ⟨rfl,t1,t6,t21,t22,t23⟩
  rw[List.take_length]
  simp -implicitDefEqProofs only[↓reduceIte,go_sem,Nat.reduceAdd,Nat.reduceLT,Nat.reduceEqDiff,Nat.reduceBEq,t6,t22,t23]
  refine ae.ok (vV H (iI l w) (by omega)) ?_
  simp -implicitDefEqProofs only[↓reduceIte,go_sem,Nat.reduceLT]
  unfold wH
  refine an.ret ?_
  simp -implicitDefEqProofs only[↓reduceIte,go_sem,Nat.reduceLT,Nat.reduceEqDiff,fR]
theorem od{n:Int}(h1:-9223372036854775808≤n)(h2:n≤9223372036854775807):ka n<18446744073709551616:=by unfold ka;split<;>omega
theorem iY(n:Int):-9223372036854775808≤IntKind.i64.wrap n∧IntKind.i64.wrap n≤9223372036854775807:=by
 have h1:=Int.emod_nonneg n (show(18446744073709551616:Int)≠0 by decide)
 have h2:=Int.emod_lt_of_pos n (show(0:Int)<18446744073709551616 by decide)
 simp only[IntKind.wrap,IntKind.signed,IntKind.bits]
 simp only[show((2:Int)^64)=18446744073709551616 from rfl,show((2:Int)^(64-1))=9223372036854775808 from rfl]
 generalize n%18446744073709551616=m at*
 by_cases h:m≥9223372036854775808<;>simp[h]<;>omega
theorem By{l:List Nat}:∀{a:Nat},a≤l.foldl (·|||·) a∧∀n∈l,n≤l.foldl (·|||·) a:=by
 induction l with
 |nil=>intro a;exact⟨Nat.le_refl _,fun n hn=>by simp at hn⟩
 |cons x l ih=>
  intro a
  simp only[List.foldl_cons]
  have h:=ih (a:=a|||x)
  refine⟨Nat.le_trans Nat.left_le_or h.1,fun n hn=>?_⟩
  rcases List.mem_cons.1 hn with rfl|hn
  ·exact Nat.le_trans Nat.right_le_or h.1
  ·exact h.2 n hn
theorem vY{l:List Nat}:∀n∈l,n<2^gi l:=fun n hn=>Nat.lt_of_le_of_lt (By.2 n hn) ((eU _ _).1 (Nat.le_refl _))
theorem Bk{l:List Nat}(h:∀n∈l,n<18446744073709551616):gi l≤64:=Ay (mM h (by decide))
theorem fa:∀(k n:Nat),n<128^k→(cP n).length≤k+1:=by
 intro k
 induction k with
 |zero=>intro n hn;rw[lu (by omega)];simp
 |succ k ih=>
  intro n hn
  by_cases h:n<128
  ·rw[lu h];simp
  ·rw[uZ h,List.length_cons]
   have:=ih (n/128) (by rw[Nat.div_lt_iff_lt_mul (by decide)];exact hn)
   omega
theorem ja{l:List al}{k:Int}(h:bj l k=0):l.length≤4096:=by
 unfold bj at h
 by_cases h1:4096<l.length
 ·rw[if_pos h1]at h
  split at h<;>omega
 ·omega
def DV(l:List Nat):Prop:=∀n∈l,n<256
theorem ofNat_inj{a b:Nat}(ha:a<256)(hb:b<256)(h:UInt8.ofNat a=UInt8.ofNat b):a=b:=by
 have:=congrArg UInt8.toNat h
 simpa[Nat.mod_eq_of_lt ha,Nat.mod_eq_of_lt hb]using this
theorem DV.app{l m:List Nat}(hl:DV l)(hm:DV m):DV (l++m):=fun n hn=>by
 rcases List.mem_append.1 hn with h|h
 ·exact hl n h
 ·exact hm n h
def jY(s:ByteArray):List Nat:=s.data.toList.map UInt8.toNat
theorem pG(s:ByteArray):(jY s).length=s.size:=by simp[jY]
theorem ya(s:ByteArray):br s=dW (jY s):=by
 unfold br dW jY
 rw[List.map_map]
 rfl
def tF(s:ByteArray):List Nat:=cP s.size++jY s
theorem AP(s:ByteArray)(hs:s.size≤100000000000000)(H:aa):ag Tryz.prog 167 [sA s] H (.ok (.d (.list false (dW (tF s))))) H:=by
 refine ag.ai (hint:=(fun _=>false)) Tryz.func167 (by kernel_rfl) rfl [2] (by kernel_rfl) (by decide) (by simp[Tryz.ntmps167]) ?_
 rw[Tryz.ntmps167]
 simp -implicitDefEqProofs only[↓reduceIte,go_sem,Nat.reduceLT,reduceCtorEq,c9 s.size (by omega)]
 refine ae.ok (gO s.size (by omega) _) ?_
 have hl:=fa 10 s.size (by omega)
 have hsl:=pG s
 simp -implicitDefEqProofs only[↓reduceIte,go_sem,Nat.reduceLT,Nat.reduceEqDiff,reduceCtorEq,ya,bP,gD,jb]
 refine⟨by omega,by omega,an.ret ?_⟩
 have ht:(dW (cP s.size++jY s)).take ((cP s.size).length+(jY s).length)=dW (cP s.size++jY s):=List.take_of_length_le (by rw[bP,List.length_append];omega)
 simp -implicitDefEqProofs only[↓reduceIte,go_sem,Nat.reduceLT,ht,tF]
def zd(n:Nat):List Nat:=(List.range 8).map fun i=>n/256^(7-i)%256
theorem lO(n:Nat):(zd n).length=8:=by simp[zd]
theorem DA(n k:Nat)(h:k<8):(zd n).take (k+1)=(zd n).take k++[n/256^(7-k)%256]:=by
 rw[List.take_succ_eq_append_getElem (by rw[lO];exact h)]
 simp[zd]
theorem tQ{v:al}(hm:fo v=true)(h3:v.kind=3):v.s.size≤1024:=by
 unfold fo at hm
 rw[if_neg (by omega),if_neg (by omega),if_pos h3]at hm
 simp at hm
 exact hm.2
def ib(v:al):List Nat:=if v.kind=1 then cP (ka v.i)else if v.kind=2 then zd (gT (wh v.i))else if v.kind=3 then tF v.s else[]
theorem gU(v:al)(hi:-9223372036854775808≤v.i∧v.i≤9223372036854775807)(hm:fo v=true)(H:aa):
  ag Tryz.prog 137 [v.av] H (.ok (.a7 [.d (.list false (dW (ib v))),iA 0])) H:=by
 by_cases h1:v.kind=1
 ·have e:ib v=cP (ka v.i):=by unfold ib;rw[if_pos h1]
  rw[e]
  refine ag.ai (hint:=(fun _=>false)) Tryz.func137 (by kernel_rfl) rfl [2,3] (by kernel_rfl) (by decide) (by simp[Tryz.ntmps137]) ?_
  rw[Tryz.ntmps137]
  simp -implicitDefEqProofs only[↓reduceIte,go_sem,ab,Nat.reduceAdd,Nat.reduceLT,Nat.reduceEqDiff]
  refine ae.ok (fK v _) ?_
  simp -implicitDefEqProofs only[↓reduceIte,go_sem,ab,Nat.reduceAdd,Nat.reduceLT,Nat.reduceLeDiff,Nat.reduceEqDiff,hm,eq_true h1]
  refine ae.ok (oH v.i hi.1 hi.2 _) ?_
  simp -implicitDefEqProofs only[↓reduceIte,go_sem,Nat.reduceLT]
  refine ae.ok (pP (ka v.i) (od hi.1 hi.2) _) ?_
  simp -implicitDefEqProofs only[↓reduceIte,go_sem,Nat.reduceLT]
  refine an.ret ?_
  simp -implicitDefEqProofs only[↓reduceIte,go_sem,Nat.reduceLT,Nat.reduceEqDiff]
 by_cases h2:v.kind=2
 ·have e:ib v=zd (gT (wh v.i)):=by unfold ib;rw[if_neg h1,if_pos h2]
  have hk:=D4 (wh v.i) (kW _)
  rw[e]
  refine ag.ai (hint:=(fun _=>false)) Tryz.func137 (by kernel_rfl) rfl [2,3] (by kernel_rfl) (by decide) (by simp[Tryz.ntmps137]) ?_
  rw[Tryz.ntmps137]
  simp -implicitDefEqProofs only[↓reduceIte,go_sem,ab,Nat.reduceAdd,Nat.reduceLT,Nat.reduceEqDiff]
  refine ae.ok (fK v _) ?_
  simp -implicitDefEqProofs only[↓reduceIte,go_sem,ab,Nat.reduceAdd,Nat.reduceLT,Nat.reduceLeDiff,Nat.reduceEqDiff,hm,h1,eq_true h2,mc]
  refine ae.ok (mL _ (kW _) _) ?_
  generalize gT (wh v.i)=n at*
  simp -implicitDefEqProofs only[↓reduceIte,go_sem,Nat.reduceLT]
  refine aU (fun k s H'=>H'=H++[.box 100 3 0 1 [iA v.kind,iA v.i,sA v.s],.arr 5 1 k (dW ((zd n).take k))]∧s 4=du n∧s 5= .sl (H.length+1) k 0 k∧s 24=iA k) 8 (by omega) (ak.eg _ _ 5 5 1 (by decide) (by simp -implicitDefEqProofs only[↓reduceIte,go_sem,Nat.reduceLT,Nat.reduceEqDiff]) _) ?_ ?_ ?_
  ·refine⟨?_,?_⟩
   ·simp -implicitDefEqProofs only[go_sem,List.take_zero,zA]
   ·simp -implicitDefEqProofs only[↓reduceIte,go_sem,Nat.reduceLT,Nat.reduceEqDiff]
  ·rintro k s H' hk2 hw ⟨rfl,t4,t5,t24⟩
   have hk8:((k:Int)<8)=True:=eq_true (by omega)
   have e1:=DA n k hk2
   have el:((zd n).take k).length=k:=by rw[List.length_take,lO];omega
   have w1:IntKind.i64.wrap (7-(k:Int))=((7-k:Nat):Int):=by rw[wrap64_in _ (by omega) (by omega)];omega
   have w2:IntKind.i64.wrap (8* ((7-k:Nat):Int))=((8* (7-k):Nat):Int):=by rw[wrap64_in _ (by omega) (by omega)];omega
   have w3:IntKind.u64.wrap ((8* (7-k):Nat):Int)=((8* (7-k):Nat):Int):=c9 _ (by omega)
   have w4:lE .u64 (n:Int) ((8* (7-k):Nat):Int)=((n/256^(7-k):Nat):Int):=by
    rw[uW n (8* (7-k)) (by omega),Nat.pow_mul]
   have w5:IntKind.u64.wrap ((n/256^(7-k):Nat):Int)=((n/256^(7-k):Nat):Int):=c9 _ (Nat.lt_of_le_of_lt (Nat.div_le_self _ _) hk)
   rw[e1]
   generalize n/256^(7-k)=m at*
   generalize hq:((8* (7-k):Nat):Int)=q at*
   generalize ((7-k:Nat):Int)=q2 at*
   generalize (zd n).take k=B at*
   simp -implicitDefEqProofs only[↓reduceIte,go_sem,Nat.reduceAdd,Nat.reduceLT,Nat.reduceLeDiff,Nat.reduceEqDiff,t4,t5,t24,hk8,w1,w2,w3,w4,mP,bP,el,mb]
   refine⟨by omega,by omega,by omega,cl.same ⟨?_,?_⟩⟩
   ·simp -implicitDefEqProofs only[go_sem]
   ·simp -implicitDefEqProofs only[↓reduceIte,go_sem,Nat.reduceLT,Nat.reduceEqDiff,t4,hw]
  ·rintro s H' ⟨rfl,t4,t5,t24⟩
   rw[show(zd n).take 8=zd n from List.take_of_length_le (by rw[lO];exact Nat.le_refl _)]
   simp -implicitDefEqProofs only[↓reduceIte,go_sem,Nat.reduceLT,Nat.reduceEqDiff,Int.reduceLT,t5,t24]
   refine an.ret ?_
   simp -implicitDefEqProofs only[↓reduceIte,go_sem,Nat.reduceLT,Nat.reduceEqDiff,show(dW (zd n)).take 8=dW (zd n)from List.take_of_length_le (by rw[bP,lO];exact Nat.le_refl _)]
 by_cases h3:v.kind=3
 ·have e:ib v=tF v.s:=by unfold ib;rw[if_neg h1,if_neg h2,if_pos h3]
  have hs:=tQ hm h3
  rw[e]
  refine ag.ai (hint:=(fun _=>false)) Tryz.func137 (by kernel_rfl) rfl [2,3] (by kernel_rfl) (by decide) (by simp[Tryz.ntmps137]) ?_
  rw[Tryz.ntmps137]
  simp -implicitDefEqProofs only[↓reduceIte,go_sem,ab,Nat.reduceAdd,Nat.reduceLT,Nat.reduceEqDiff]
  refine ae.ok (fK v _) ?_
  simp -implicitDefEqProofs only[↓reduceIte,go_sem,ab,Nat.reduceAdd,Nat.reduceLT,Nat.reduceLeDiff,Nat.reduceEqDiff,hm,h1,h2,eq_true h3]
  refine ae.ok (AP v.s (by omega) _) ?_
  simp -implicitDefEqProofs only[↓reduceIte,go_sem,Nat.reduceLT]
  refine an.ret ?_
  simp -implicitDefEqProofs only[↓reduceIte,go_sem,Nat.reduceLT,Nat.reduceEqDiff]
 ·have e:ib v=[]:=by unfold ib;rw[if_neg h1,if_neg h2,if_neg h3]
  rw[e]
  refine ag.kf (cs:=[.d (.v (.slice none 0 0)),iA 0]) ?_ (.cons .nil (.cons (.refl _) .nil))
  refine ag.ai (hint:=(fun _=>false)) Tryz.func137 (by kernel_rfl) rfl [2,3] (by kernel_rfl) (by decide) (by simp[Tryz.ntmps137]) ?_
  rw[Tryz.ntmps137]
  simp -implicitDefEqProofs only[↓reduceIte,go_sem,ab,Nat.reduceAdd,Nat.reduceLT,Nat.reduceEqDiff]
  refine ae.ok (fK v _) ?_
  simp -implicitDefEqProofs only[↓reduceIte,go_sem,ab,Nat.reduceAdd,Nat.reduceLT,Nat.reduceLeDiff,Nat.reduceEqDiff,hm,h1,h2,h3]
  refine an.ret ?_
  simp -implicitDefEqProofs only[↓reduceIte,go_sem,Nat.reduceLT,Nat.reduceEqDiff]
theorem sT{α:Type}{eq:α→α→Bool}:∀{t:List α} {p x:α},x∈St.pQ eq p t→x∈t
 |[],_,_,h=>by simp[St.pQ]at h
 |y::t,p,x,h=>by
  unfold St.pQ at h
  split at h
  ·exact List.mem_cons_of_mem _ (sT h)
  ·rcases List.mem_cons.1 h with rfl|h
   ·exact List.mem_cons_self ..
   ·exact List.mem_cons_of_mem _ (sT h)
theorem sC{α:Type}{eq:α→α→Bool}{l:List α}{x:α}(h:x∈St.az eq l):x∈l:=by
 cases l with
 |nil=>simp[St.az]at h
 |cons y t=>
  rcases List.mem_cons.1 h with rfl|h
  ·exact List.mem_cons_self ..
  ·exact List.mem_cons_of_mem _ (sT h)
theorem kZ{α:Type}{c:α→α→Int}(ht:lR c):∀{t:List α} {p:α},St.aw (tB c) (p::t)→(p::St.pQ (fun a b=>decide (c a b=0)) p t).Pairwise (fun x y=>tB c x y=true)∧∀x∈t,∃y∈p::St.pQ (fun a b=>decide (c a b=0)) p t,c x y=0
 |[],p,_=>by simp[St.pQ]
 |y::t,p,h=>by
  have h1:=List.pairwise_cons.1 h
  have h2:=List.pairwise_cons.1 h1.2
  have hp:tB c y p=false:=h1.1 y (by simp)
  unfold St.pQ
  by_cases he:c y p=0
  ·rw[if_pos (by simpa using he)]
   have hs:St.aw (tB c) (p::t):=List.pairwise_cons.2 ⟨fun z hz=>h1.1 z (by simp[hz]),h2.2⟩
   have key:∀(t:List α) (y p:α),c y p=0→St.pQ (fun a b=>decide (c a b=0)) y t=St.pQ (fun a b=>decide (c a b=0)) p t:=by
    intro t
    cases t with
    |nil=>intros;rfl
    |cons z t=>
     intro y p h
     unfold St.pQ
     have:decide (c z y=0)=decide (c z p=0):=by
      rw[Bool.eq_iff_iff,decide_eq_true_eq,decide_eq_true_eq]
      exact⟨fun g=>ht.fY g h,fun g=>ht.fY g ((ht.zero y p).1 h)⟩
     rw[this]
   rw[key t y p he]
   obtain⟨i1,i2⟩:=kZ ht hs
   refine⟨i1,fun x hx=>?_⟩
   rcases List.mem_cons.1 hx with rfl|hx
   ·exact⟨p,by simp,he⟩
   ·exact i2 x hx
  ·rw[if_neg (by simpa using he)]
   obtain⟨i1,i2⟩:=kZ ht h1.2
   have hlt:tB c p y=true:=by
    simp only[tB,decide_eq_true_eq,decide_eq_false_iff_not]at hp⊢
    have:=ht.gj p y
    omega
   refine⟨List.pairwise_cons.2 ⟨fun z hz=>?_,i1⟩,fun x hx=>?_⟩
   ·rcases List.mem_cons.1 hz with rfl|hz
    ·exact hlt
    ·exact ht.ord.trans hlt ((List.pairwise_cons.1 i1).1 z hz)
   ·rcases List.mem_cons.1 hx with rfl|hx
    ·exact⟨x,by simp,ht.self x⟩
    ·obtain⟨z,hz,hc⟩:=i2 x hx
     exact⟨z,List.mem_cons_of_mem _ hz,hc⟩
theorem ot{α:Type}{c:α→α→Int}(ht:lR c){l:List α}(h:St.aw (tB c) l):(St.az (fun a b=>decide (c a b=0)) l).Pairwise (fun x y=>tB c x y=true)∧∀x∈l,∃y∈St.az (fun a b=>decide (c a b=0)) l,c x y=0:=by
 cases l with
 |nil=>simp[St.az]
 |cons p t=>
  obtain⟨h1,h2⟩:=kZ ht h
  refine⟨h1,fun x hx=>?_⟩
  rcases List.mem_cons.1 hx with rfl|hx
  ·exact⟨x,by simp[St.az],ht.self x⟩
  ·exact h2 x hx
def bV{α:Type}(c:α→α→Int)(l:List α):List α:=St.az (fun a b=>decide (c a b=0)) (St.aJ (tB c) l)
theorem Be{α:Type}{c:α→α→Int}(ht:lR c){l:List α}{x:α}(h:x∈bV c l):x∈l:=(St.fL ht.ord).1 (sC h)
theorem Bc{α:Type}{c:α→α→Int}(ht:lR c){l:List α}{x:α}(h:x∈l):∃y∈bV c l,c x y=0:=(ot ht (St.cz ht.ord l)).2 x ((St.fL ht.ord).2 h)
theorem wk(n:Nat)(h:n<18446744073709551616):IntKind.u64.wrap (n:Int)=n:=by
 simp[IntKind.wrap,IntKind.signed,IntKind.bits];omega
theorem lN(b:Nat)(hb:b<18446744073709551616)(H:aa):ag Tryz.prog 242 [du b] H (.ok (.a7 [bA (decide (9223372036854775808≤b)),du (b/4503599627370496%2048),du (b%4503599627370496)])) H:=by
 have e1:(b:Int).tdiv 4503599627370496=((b/4503599627370496:Nat):Int):=rfl
 have e2:((b/4503599627370496:Nat):Int).tmod 2048=((b/4503599627370496%2048:Nat):Int):=rfl
 have e3:(b:Int).tmod 4503599627370496=((b%4503599627370496:Nat):Int):=rfl
 have e4:((9223372036854775808:Int)≤(b:Int))=(9223372036854775808≤b):=by simp;omega
 refine ag.ai (hint:=(fun _=>false)) Tryz.func242 (by kernel_rfl) rfl [2,3,4] (by kernel_rfl) (by decide) (by simp[Tryz.ntmps242]) ?_
 rw[Tryz.ntmps242]
 simp -implicitDefEqProofs only[↓reduceIte,go_sem,Nat.reduceLT,Nat.reduceEqDiff,Int.reduceEq,reduceCtorEq,e1,e2,e3,wk _ (show b/4503599627370496<18446744073709551616 by omega)]
 refine an.aI ?_
 simp -implicitDefEqProofs only[↓reduceIte,go_sem,Nat.reduceLT,Nat.reduceEqDiff,e4]
theorem Jh(b:Nat):(decide (b/4503599627370496%2048=2047)&& !decide (b%4503599627370496=0))=vX b:=by
 unfold vX
 rw[Bool.eq_iff_iff]
 simp only[Bool.and_eq_true,decide_eq_true_eq,Bool.not_eq_true',decide_eq_false_iff_not]
 omega
theorem wy(b:Nat)(hb:b<18446744073709551616)(H:aa):ag Tryz.prog 262 [du b] H (.ok (bA (vX b))) H:=by
 rw[←Jh]
 have hp:=lN b hb H
 generalize b/4503599627370496%2048=e at hp⊢
 generalize b%4503599627370496=f at hp⊢
 have e1:(((e:Nat):Int)=2047)=(e=2047):=by simp;omega
 have e2:(((f:Nat):Int)=0)=(f=0):=by simp
 refine ag.ai (hint:=(fun _=>false)) Tryz.func262 (by kernel_rfl) rfl [2] (by kernel_rfl) (by decide) (by simp[Tryz.ntmps262]) ?_
 rw[Tryz.ntmps262]
 simp -implicitDefEqProofs only[↓reduceIte,go_sem,Nat.reduceLT,reduceCtorEq]
 refine ae.ok hp ?_
 simp -implicitDefEqProofs only[↓reduceIte,go_sem,Nat.reduceLT,Nat.reduceEqDiff]
 by_cases h:e=2047
 ·simp -implicitDefEqProofs only[↓reduceIte,go_sem,Nat.reduceLT,Nat.reduceEqDiff,e2,h]
  refine an.aI ?_
  simp -implicitDefEqProofs only[↓reduceIte,go_sem,Nat.reduceLT,h]
 ·simp -implicitDefEqProofs only[↓reduceIte,go_sem,Nat.reduceLT,Nat.reduceEqDiff,reduceCtorEq,e1,h]
  refine an.aI ?_
  simp -implicitDefEqProofs only[↓reduceIte,go_sem,Nat.reduceLT,h]
theorem tk(b:Nat)(hb:b<18446744073709551616)(H:aa):ag Tryz.prog 241 [du b] H (.ok (du (ew b))) H:=by
 unfold ew
 refine ag.ai (hint:=(fun _=>false)) Tryz.func241 (by kernel_rfl) rfl [2] (by kernel_rfl) (by decide) (by simp[Tryz.ntmps241]) ?_
 rw[Tryz.ntmps241]
 simp -implicitDefEqProofs only[↓reduceIte,go_sem,Nat.reduceLT,reduceCtorEq]
 refine ae.ok (wy b hb _) ?_
 cases h:vX b with
 |true=>
  simp -implicitDefEqProofs only[↓reduceIte,go_sem,Nat.reduceLT]
  refine an.aI ?_
  simp -implicitDefEqProofs only[↓reduceIte,go_sem,Nat.reduceLT]
  rfl
 |false=>
  simp -implicitDefEqProofs only[↓reduceIte,go_sem,Nat.reduceLT,reduceCtorEq]
  refine an.aI ?_
  simp -implicitDefEqProofs only[↓reduceIte,go_sem,Nat.reduceLT,Bool.false_eq_true]
theorem ph(b:Nat)(hb:b<18446744073709551616)(H:aa):ag Tryz.prog 209 [du b] H (.ok (du (gT b))) H:=by
 have hc:=tk b hb H
 have hlt:=m3 b hb
 unfold gT
 generalize ew b=c at hc hlt⊢
 refine ag.ai (hint:=(fun _=>false)) Tryz.func209 (by kernel_rfl) rfl [2] (by kernel_rfl) (by decide) (by simp[Tryz.ntmps209]) ?_
 rw[Tryz.ntmps209]
 simp -implicitDefEqProofs only[↓reduceIte,go_sem,Nat.reduceLT,reduceCtorEq]
 refine ae.ok hc ?_
 simp -implicitDefEqProofs only[↓reduceIte,go_sem,Nat.reduceLT]
 refine ae.ok (lN c hlt _) ?_
 simp -implicitDefEqProofs only[↓reduceIte,go_sem,Nat.reduceLT,Nat.reduceEqDiff]
 by_cases h:9223372036854775808≤c
 ·have e1:IntKind.u64.wrap ((18446744073709551615:Int)-(c:Int))=((18446744073709551615-c:Nat):Int):=by rw[show(18446744073709551615:Int)-(c:Int)=((18446744073709551615-c:Nat):Int)from by omega];exact wk _ (by omega)
  simp -implicitDefEqProofs only[↓reduceIte,go_sem,Nat.reduceLT,Nat.reduceEqDiff,h,e1]
  refine an.aI ?_
  simp -implicitDefEqProofs only[↓reduceIte,go_sem,Nat.reduceLT,h]
 ·have e2:(c:Int)+9223372036854775808=((c+9223372036854775808:Nat):Int):=by omega
  have e1:IntKind.u64.wrap ((c:Int)+9223372036854775808)=((c+9223372036854775808:Nat):Int):=by rw[show(c:Int)+9223372036854775808=((c+9223372036854775808:Nat):Int)from by omega];exact wk _ (by omega)
  simp -implicitDefEqProofs only[↓reduceIte,go_sem,Nat.reduceLT,Nat.reduceEqDiff,h,e1]
  refine an.aI ?_
  simp -implicitDefEqProofs only[↓reduceIte,go_sem,Nat.reduceLT,h,du,Int.natCast_add]
  try rfl
theorem v7(a b:Nat)(ha:a<18446744073709551616)(hb:b<18446744073709551616)(H:aa):ag Tryz.prog 173 [du a,du b] H (.ok (iA (yt a b))) H:=by
 have k1:=ph a ha H
 have k2:=ph b hb H
 unfold yt
 generalize gT a=x at k1⊢
 generalize gT b=y at k2⊢
 refine ag.ai (hint:=(fun _=>false)) Tryz.func173 (by kernel_rfl) rfl [4] (by kernel_rfl) (by decide) (by simp[Tryz.ntmps173]) ?_
 rw[Tryz.ntmps173]
 simp -implicitDefEqProofs only[↓reduceIte,go_sem,Nat.reduceLT,Int.reduceNeg,reduceCtorEq]
 refine ae.ok k1 ?_
 simp -implicitDefEqProofs only[↓reduceIte,go_sem,Nat.reduceLT,Nat.reduceEqDiff]
 refine ae.ok k2 ?_
 simp -implicitDefEqProofs only[↓reduceIte,go_sem,Nat.reduceLT,Nat.reduceEqDiff,Int.reduceNeg]
 by_cases h:x<y
 ·refine cT (by simp -implicitDefEqProofs only[go_sem,h]) ?_
  simp -implicitDefEqProofs only[go_sem,Int.reduceNeg]
  refine an.aI ?_
  simp -implicitDefEqProofs only[↓reduceIte,go_sem,Nat.reduceLT,Int.reduceNeg,dy,h]
 ·refine cO (by simp -implicitDefEqProofs only[go_sem,h]) ?_
  simp -implicitDefEqProofs only[↓reduceIte,go_sem,Nat.reduceLT,reduceCtorEq]
  refine ae.ok k1 ?_
  simp -implicitDefEqProofs only[↓reduceIte,go_sem,Nat.reduceLT,Nat.reduceEqDiff]
  refine ae.ok k2 ?_
  simp -implicitDefEqProofs only[↓reduceIte,go_sem,Nat.reduceLT,Nat.reduceEqDiff]
  by_cases h2:y<x
  ·refine cT (by simp -implicitDefEqProofs only[go_sem,h2]) ?_
   simp -implicitDefEqProofs only[go_sem]
   refine an.aI ?_
   simp -implicitDefEqProofs only[↓reduceIte,go_sem,Nat.reduceLT,reduceCtorEq,dy,h,h2]
  ·refine cO (by simp -implicitDefEqProofs only[go_sem,h2]) ?_
   simp -implicitDefEqProofs only[go_sem]
   refine an.aI ?_
   simp -implicitDefEqProofs only[↓reduceIte,go_sem,Nat.reduceLT,reduceCtorEq,dy,h,h2]
theorem ev(less more:Bool)(H:aa):ag Tryz.prog 172 [bA less,bA more] H (.ok (iA (dy less more))) H:=by
 unfold dy
 refine ag.ai (hint:=(fun _=>false)) Tryz.func172 (by kernel_rfl) rfl [4] (by kernel_rfl) (by decide) (by simp[Tryz.ntmps172]) ?_
 rw[Tryz.ntmps172]
 cases less with
 |true=>
  simp -implicitDefEqProofs only[↓reduceIte,go_sem,Nat.reduceLT,Int.reduceNeg,reduceCtorEq]
  refine an.aI ?_
  simp -implicitDefEqProofs only[↓reduceIte,go_sem,Nat.reduceLT,Int.reduceNeg]
 |false=>
  cases more with
  |true=>
   simp -implicitDefEqProofs only[↓reduceIte,go_sem,Nat.reduceLT,Nat.reduceEqDiff,Int.reduceNeg,reduceCtorEq]
   refine an.aI ?_
   simp -implicitDefEqProofs only[↓reduceIte,go_sem,Nat.reduceLT,Bool.false_eq_true]
  |false=>
   simp -implicitDefEqProofs only[↓reduceIte,go_sem,Nat.reduceLT,Nat.reduceEqDiff,Int.reduceNeg,reduceCtorEq]
   refine an.aI ?_
   simp -implicitDefEqProofs only[↓reduceIte,go_sem,Nat.reduceLT,Bool.false_eq_true]
def qf(a b:List UInt8):Int:=dy (Op.bytesLess a b) (!(Op.bytesLess a b||a==b))
theorem rp(x y:UInt8)(a b:List UInt8):qf (x::a) (y::b)=if x.toNat<y.toNat then -1 else if y.toNat<x.toNat then 1 else qf a b:=by
 unfold qf
 by_cases h:x<y
 ·have h':x.toNat<y.toNat:=h
  simp[Op.bytesLess,h,h',dy]
 ·have h':¬x.toNat<y.toNat:=h
  by_cases h2:y.toNat<x.toNat
  ·have hne:(x==y)=false:=by
    rw[beq_eq_false_iff_ne];intro e;subst e;omega
   have hne':¬x=y:=by simpa using hne
   simp[Op.bytesLess,h,h',h2,dy,hne']
  ·have e:x=y:=UInt8.toNat_inj.1 (by omega)
   subst e
   simp[Op.bytesLess,dy]
theorem qj(b:List UInt8):qf [] b=dy (decide (0<b.length)) false:=by
 cases b<;>simp[qf,Op.bytesLess,dy]
theorem jO(a:List UInt8):qf a []=dy false (decide (0<a.length)):=by
 cases a<;>simp[qf,Op.bytesLess,dy]
theorem nO(a:ByteArray):a.toList.length=a.size:=by rw[ByteArray.toList_eq];simp
theorem oD(a:ByteArray)(k:Nat):a[k]?=a.toList[k]?:=by
 rw[ByteArray.toList_eq]
 by_cases h:k<a.size
 ·simp[h]
  rfl
 ·simp[h]
theorem rJ(a b:List UInt8):∀(k:Nat),k≤a.length→k≤b.length→(∀i,i<k→a[i]?=b[i]?)→qf a b=qf (a.drop k) (b.drop k):=by
 intro k
 induction k with
 |zero=>intros;rfl
 |succ k ih=>
  intro h1 h2 h
  rw[ih (by omega) (by omega) fun i hi=>h i (by omega)]
  have e:=h k (by omega)
  rw[List.getElem?_eq_getElem (by omega),List.getElem?_eq_getElem (by omega)]at e
  rw[List.drop_eq_getElem_cons (show k<a.length by omega),List.drop_eq_getElem_cons (show k<b.length by omega),rp]
  have e:a[k]=b[k]:=by simpa using e
  rw[e]
  simp
theorem sP(a b:ByteArray)(ha:a.size≤9223372036854775807)(H:aa):ag Tryz.prog 174 [sA a,sA b] H (.ok (iA (mU a b))) H:=by
 have hcmp:mU a b=qf a.toList b.toList:=rfl
 have g1:∀k,a[k]?=a.toList[k]?:=oD a
 have g2:∀k,b[k]?=b.toList[k]?:=oD b
 have s1:=nO a
 have s2:=nO b
 have c1:∀(x y:UInt8),(((x.toNat:Nat):Int)<((y.toNat:Nat):Int))=(x.toNat<y.toNat):=fun x y=>by simp
 rw[hcmp]
 refine ag.ai (hint:=(fun _=>false)) Tryz.func174 (by kernel_rfl) rfl [4] (by kernel_rfl) (by decide) (by simp[Tryz.ntmps174]) ?_
 rw[Tryz.ntmps174]
 simp -implicitDefEqProofs only[go_sem,Int.reduceNeg]
 refine aA (fun k s H'=>H'=H∧(∀i,i<k→a.toList[i]?=b.toList[i]?)∧s 0=sA a∧s 1=sA b∧s 5=iA k) (min a.size b.size) (by omega) (ak.refl _ _) ?_ ?_ ?_
 ·refine⟨rfl,fun i hi=>by omega,?_⟩
  simp -implicitDefEqProofs only[↓reduceIte,go_sem,Nat.reduceLT,Nat.reduceEqDiff,reduceCtorEq]
 ·rintro k s H' hk hw ⟨rfl,hp,h0,h1,h5⟩
  have k1:k<a.size:=by omega
  have k2:k<b.size:=by omega
  have e1:(k<a.size)=True:=eq_true (by omega)
  have e2:(k<b.size)=True:=eq_true (by omega)
  simp -implicitDefEqProofs only[↓reduceIte,go_sem,Nat.reduceLT,Nat.reduceEqDiff,reduceCtorEq,h0,h1,h5,e1,e2]
  have x1:a[k]?=some a.toList[k]:=by rw[g1];exact List.getElem?_eq_getElem (by omega)
  have x2:b[k]?=some b.toList[k]:=by rw[g2];exact List.getElem?_eq_getElem (by omega)
  have hd:=rJ a.toList b.toList k (by omega) (by omega) hp
  rw[List.drop_eq_getElem_cons (show k<a.toList.length by omega),List.drop_eq_getElem_cons (show k<b.toList.length by omega),rp]at hd
  have hp':a.toList[k]=b.toList[k]→∀i,i<k+1→a.toList[i]?=b.toList[i]?:=fun e i hi=>by
   rcases Nat.lt_or_ge i k with h|h
   ·exact hp i h
   ·obtain rfl:i=k:=by omega
    rw[List.getElem?_eq_getElem (by omega),List.getElem?_eq_getElem (by omega),e]
  generalize a.toList[k]=x at x1 hd hp'
  generalize b.toList[k]=y at x2 hd hp'
  refine aF K.mixed (by kernel_rfl) ?_
  simp -implicitDefEqProofs only[↓reduceIte,go_sem,Nat.reduceLT,Nat.reduceEqDiff,Int.reduceNeg,reduceCtorEq,h0,h1,h5,x1,x2,c1]
  by_cases hxy:x.toNat<y.toNat
  ·refine cT (by simp -implicitDefEqProofs only[go_sem,hxy]) ?_
   simp -implicitDefEqProofs only[go_sem,Int.reduceNeg]
   refine an.aI ?_
   rw[hd,if_pos hxy]
   simp -implicitDefEqProofs only[↓reduceIte,go_sem,Nat.reduceLT,Int.reduceNeg]
  ·refine cO (by simp -implicitDefEqProofs only[go_sem,hxy]) ?_
   simp -implicitDefEqProofs only[go_sem]
   refine aF K.mixed (by kernel_rfl) ?_
   simp -implicitDefEqProofs only[↓reduceIte,go_sem,Nat.reduceLT,Nat.reduceEqDiff,reduceCtorEq,h0,h1,h5,x1,x2,c1]
   by_cases hyx:y.toNat<x.toNat
   ·refine cT (by simp -implicitDefEqProofs only[go_sem,hyx]) ?_
    simp -implicitDefEqProofs only[go_sem]
    refine an.aI ?_
    rw[hd,if_neg hxy,if_pos hyx]
    simp -implicitDefEqProofs only[↓reduceIte,go_sem,Nat.reduceLT]
   ·refine cO (by simp -implicitDefEqProofs only[go_sem,hyx]) ?_
    simp -implicitDefEqProofs only[↓reduceIte,go_sem,Nat.reduceLT,Nat.reduceEqDiff,h5]
    have e:x=y:=UInt8.toNat_inj.1 (by omega)
    refine cl.same ⟨rfl,hp' e,?_⟩
    simp -implicitDefEqProofs only[↓reduceIte,go_sem,Nat.reduceLT,Nat.reduceEqDiff,reduceCtorEq,h0,h1,hw]
 ·rintro s H' ⟨rfl,hp,h0,h1,h5⟩
  have hd:=rJ a.toList b.toList (min a.size b.size) (by omega) (by omega) hp
  rcases Nat.lt_or_ge a.size b.size with hlt|hge
  ·have e0:min a.size b.size=a.size:=by omega
   rw[e0]at h5 hd
   have e1:(a.size<a.size)=False:=eq_false (by omega)
   have e2:(a.size<b.size)=True:=eq_true (by omega)
   have e3:(b.size<a.size)=False:=eq_false (by omega)
   simp -implicitDefEqProofs only[↓reduceIte,go_sem,Nat.reduceLT,Nat.reduceEqDiff,reduceCtorEq,h0,h1,h5,e1]
   refine ae.ok (ev _ _ _) ?_
   simp -implicitDefEqProofs only[↓reduceIte,go_sem,Nat.reduceLT]
   refine an.aI ?_
   rw[hd,List.drop_of_length_le (Nat.le_of_eq s1),qj,List.length_drop]
   simp -implicitDefEqProofs only[↓reduceIte,go_sem,Nat.reduceLT,e2,e3,show(0<b.toList.length-a.size)=True from eq_true (by omega)]
  ·have e0:min a.size b.size=b.size:=by omega
   rw[e0]at h5 hd
   have e1:(b.size<b.size)=False:=eq_false (by omega)
   have e2:(a.size<b.size)=False:=eq_false (by omega)
   by_cases hlt:b.size<a.size
   ·have e3:(b.size<a.size)=True:=eq_true (by omega)
    simp -implicitDefEqProofs only[↓reduceIte,go_sem,Nat.reduceLT,Nat.reduceEqDiff,reduceCtorEq,h0,h1,h5,e1,e3]
    refine ae.ok (ev _ _ _) ?_
    simp -implicitDefEqProofs only[↓reduceIte,go_sem,Nat.reduceLT]
    refine an.aI ?_
    rw[hd,List.drop_of_length_le (Nat.le_of_eq s2),jO,List.length_drop]
    simp -implicitDefEqProofs only[↓reduceIte,go_sem,Nat.reduceLT,e2,show(0<a.toList.length-b.size)=True from eq_true (by omega)]
   ·have e3:(b.size<a.size)=False:=eq_false (by omega)
    simp -implicitDefEqProofs only[↓reduceIte,go_sem,Nat.reduceLT,Nat.reduceEqDiff,reduceCtorEq,h0,h1,h5,e3]
    refine ae.ok (ev _ _ _) ?_
    simp -implicitDefEqProofs only[↓reduceIte,go_sem,Nat.reduceLT]
    refine an.aI ?_
    rw[hd,List.drop_of_length_le (Nat.le_of_eq s2),jO,List.length_drop]
    simp -implicitDefEqProofs only[↓reduceIte,go_sem,Nat.reduceLT,e2,show(0<a.toList.length-b.size)=False from eq_false (by omega)]
theorem nD(a b:al)(ha:a.s.size≤9223372036854775807)(H:aa):ag Tryz.prog 140 [a.av,b.av] H (.ok (iA (aO a b))) H:=by
 unfold aO
 refine ag.ai (hint:=(fun _=>false)) Tryz.func140 (by kernel_rfl) rfl [4] (by kernel_rfl) (by decide) (by simp[Tryz.ntmps140]) ?_
 rw[Tryz.ntmps140]
 simp -implicitDefEqProofs only[↓reduceIte,go_sem,ab,Nat.reduceAdd,Nat.reduceLT,Nat.reduceLeDiff,Nat.reduceEqDiff]
 by_cases h:a.kind=b.kind
 ·refine cO (by simp -implicitDefEqProofs only[go_sem,h]) ?_
  simp -implicitDefEqProofs only[↓reduceIte,go_sem,ab,Nat.reduceAdd,Nat.reduceLT,Nat.reduceLeDiff,Nat.reduceEqDiff]
  by_cases h1:a.kind=1
  ·refine cT (by simp -implicitDefEqProofs only[go_sem,h1]) ?_
   simp -implicitDefEqProofs only[↓reduceIte,go_sem,ab,Nat.reduceAdd,Nat.reduceLT,Nat.reduceLeDiff,Nat.reduceEqDiff]
   refine ae.ok (ev _ _ _) ?_
   simp -implicitDefEqProofs only[↓reduceIte,go_sem,Nat.reduceLT]
   refine an.ret ?_
   simp -implicitDefEqProofs only[↓reduceIte,go_sem,Nat.reduceLT,h1,←h,ff]
  ·refine cO (by simp -implicitDefEqProofs only[go_sem,h1]) ?_
   simp -implicitDefEqProofs only[↓reduceIte,go_sem,Nat.reduceLT,Nat.reduceEqDiff]
   by_cases h2:a.kind=2
   ·refine cT (by simp -implicitDefEqProofs only[go_sem,h2]) ?_
    simp -implicitDefEqProofs only[↓reduceIte,go_sem,ab,Nat.reduceAdd,Nat.reduceLT,Nat.reduceLeDiff,Nat.reduceEqDiff,mc]
    refine ae.ok (v7 _ _ (kW _) (kW _) _) ?_
    simp -implicitDefEqProofs only[↓reduceIte,go_sem,Nat.reduceLT]
    refine an.ret ?_
    simp -implicitDefEqProofs only[↓reduceIte,go_sem,Nat.reduceLT,Int.reduceEq,h2,←h]
   ·refine cO (by simp -implicitDefEqProofs only[go_sem,h2]) ?_
    simp -implicitDefEqProofs only[↓reduceIte,go_sem,Nat.reduceLT,Nat.reduceEqDiff]
    by_cases h3:a.kind=3
    ·refine cT (by simp -implicitDefEqProofs only[go_sem,h3]) ?_
     simp -implicitDefEqProofs only[↓reduceIte,go_sem,ab,Nat.reduceAdd,Nat.reduceLT,Nat.reduceEqDiff]
     refine ae.ok (sP _ _ ha _) ?_
     simp -implicitDefEqProofs only[↓reduceIte,go_sem,Nat.reduceLT]
     refine an.ret ?_
     simp -implicitDefEqProofs only[↓reduceIte,go_sem,Nat.reduceLT,Int.reduceEq,h3,←h]
    ·refine cO (by simp -implicitDefEqProofs only[go_sem,h3]) ?_
     simp -implicitDefEqProofs only[go_sem]
     refine an.ret ?_
     simp -implicitDefEqProofs only[↓reduceIte,go_sem,Nat.reduceLT,h1,h2,h3,←h]
 ·refine cT (by simp -implicitDefEqProofs only[go_sem,h]) ?_
  simp -implicitDefEqProofs only[↓reduceIte,go_sem,ab,Nat.reduceAdd,Nat.reduceLT,Nat.reduceLeDiff,Nat.reduceEqDiff]
  refine ae.ok (ev _ _ _) ?_
  simp -implicitDefEqProofs only[↓reduceIte,go_sem,Nat.reduceLT]
  refine an.ret ?_
  simp -implicitDefEqProofs only[↓reduceIte,go_sem,Nat.reduceLT,h,ff]
def jL(words:List al)(v:al):Nat:=words.countP fun w=>decide (aO w v<0)
def cC(words:List al)(v:al):Int:=kD (fun w=>decide (aO w v=0)) words
theorem wC(words:List al)(v:al):-1≤cC words v∧cC words v<words.length∨words=[]∧cC words v=-1:=by
 unfold cC kD
 split
 ·rename_i h
  obtain⟨x,hx,hp⟩:=List.any_eq_true.1 h
  have:words.findIdx (fun w=>decide (aO w v=0))<words.length:=List.findIdx_lt_length_of_exists ⟨x,hx,hp⟩
  left;omega
 ·cases words with
  |nil=>exact .inr ⟨rfl,rfl⟩
  |cons a l=>left;simp;omega
def eW(words l:List al):Bool:=l.all fun v=>decide (0≤cC words v)
def wj(words l:List al):List Nat:=if eW words l then l.map fun v=>(cC words v).toNat else[]
def yL(words l:List al):Int:=if eW words l then 0 else 6
def sM(words l:List al):AV:= .a7 [.d (.list false (us (wj words l))),iA (yL words l)]
theorem BC{words l:List al}{k:Nat}(hk:k<l.length)(h:cC words l[k]<0):eW words l=false:=by
 rw[Bool.eq_false_iff]
 intro g
 unfold eW at g
 rw[List.all_eq_true]at g
 have:=g _ (List.getElem_mem hk)
 simp at this
 omega
theorem yN{words l:List al}(h:∀i (hi:i<l.length),0≤cC words l[i]):eW words l=true:=by
 unfold eW
 rw[List.all_eq_true]
 intro v hv
 obtain⟨i,hi,rfl⟩:=List.mem_iff_getElem.1 hv
 simpa using h i hi
def EI(v:al):ay:= .box 100 3 0 1 [iA v.kind,iA v.i,sA v.s]
theorem vR(w v:al)(id:Nat)(H:aa)(hb:H[id]?=some (EI v)):ag Tryz.prog 255 [w.av,.ptr id 0 0 0] H (.ok (bA (decide (aO w v=0)))) H:=by
 have hlt:id<H.length:=(List.getElem?_eq_some_iff.1 hb).1
 unfold EI at hb
 refine ag.ai (hint:=(fun _=>false)) Tryz.func255 (by kernel_rfl) rfl [3] (by kernel_rfl) (by decide) (by simp[Tryz.ntmps255]) ?_
 rw[Tryz.ntmps255]
 simp -implicitDefEqProofs only[↓reduceIte,go_sem,ab,Nat.reduceAdd,Nat.reduceLT,Nat.reduceEqDiff,hb,List.getElem?_append_left hlt]
 refine ae.ok (cF w v _) ?_
 simp -implicitDefEqProofs only[↓reduceIte,go_sem,Nat.reduceLT]
 refine an.ret ?_
 simp -implicitDefEqProofs only[↓reduceIte,go_sem,Nat.reduceLT]
theorem uz(words l:List al)(n1 n2:Bool)(H:aa)(hw:words.length≤1000000000000)(hl:l.length≤1000000000000):ag Tryz.prog 230 [.d (.list n1 (words.map al.enc)),.d (.list n2 (l.map al.enc))] H
  (.ok (if eW words l then .a7 [.d (.list false (us (l.map fun v=>(cC words v).toNat))),iA 0]else .a7 [.d (.v (.slice none 0 0)),iA 6])) H:=by
 refine ag.ai (hint:=(fun _=>false)) Tryz.func230 (by kernel_rfl) rfl [4,5] (by kernel_rfl) (by decide) (by simp[Tryz.ntmps230]) ?_
 rw[Tryz.ntmps230]
 simp -implicitDefEqProofs only[↓reduceIte,go_sem,Nat.reduceLT,Nat.reduceEqDiff]
 refine aU (fun k s H'=>H'=H++[.arr 40 1 k (us ((l.take k).map fun v=>(cC words v).toNat))]∧(∀i (hi:i<k) (hl:i<l.length),0≤cC words l[i])∧s 0= .d (.list n1 (words.map al.enc))∧s 6= .sl H.length k 0 k∧s 10= .d (.list n2 (l.map al.enc))∧s 11=iA l.length∧s 12=iA k) l.length (by omega) (ak.eg _ _ 6 40 1 (by decide) (by simp -implicitDefEqProofs only[↓reduceIte,go_sem,Nat.reduceLT,Nat.reduceEqDiff]) _) ?_ ?_ ?_
 ·refine⟨rfl,fun i hi=>by omega,?_⟩
  simp -implicitDefEqProofs only[↓reduceIte,go_sem,Nat.reduceLT,Nat.reduceEqDiff,reduceCtorEq]
 ·rintro k s H' hk hw' ⟨rfl,hp,t0,t6,t10,t11,t12⟩
  have hx:=List.getElem?_eq_getElem hk
  have e1:(l.take (k+1)).map (fun v=>(cC words v).toNat)=(l.take k).map (fun v=>(cC words v).toNat)++[(cC words l[k]).toNat]:=by rw[List.take_succ_eq_append_getElem hk,List.map_append];rfl
  have hbad:=BC (words:=words) hk
  have hrng:=wC words l[k]
  have hpp:0≤cC words l[k]→∀i (hi:i<k+1) (hl:i<l.length),0≤cC words l[i]:=fun h0 i hi hl'=>by
   rcases Nat.lt_or_ge i k with h|h
   ·exact hp i h hl'
   ·obtain rfl:i=k:=by omega
    exact h0
  have hlen:((l.take k).map fun v=>(cC words v).toNat).length=k:=by simp;omega
  generalize l[k]=x at hx e1 hbad hrng hpp
  generalize (l.take k).map (fun v=>(cC words v).toNat)=L at e1 hlen⊢
  simp -implicitDefEqProofs only[↓reduceIte,go_sem,aq,Nat.reduceAdd,Nat.reduceLT,Nat.reduceEqDiff,reduceCtorEq,t10,t11,t12,hk,hx,al.enc]
  simp -implicitDefEqProofs only[go_sem,t0]
  refine ae.ok (nE words (fun w=>decide (aO w x=0)) 255 [.ptr (H.length+1) 0 0 0] n1 _ (by omega) fun w _=>vR w x _ _ (by simp[EI])) ?_
  have hpl:kD (fun w=>decide (aO w x=0)) words=cC words x:=rfl
  rw[hpl]
  generalize hq:cC words x=q at*
  by_cases hq0:q<0
  ·simp -implicitDefEqProofs only[↓reduceIte,go_sem,Nat.reduceLT,hq0]
   refine an.ret ?_
   rw[hbad hq0]
   simp -implicitDefEqProofs only[↓reduceIte,go_sem,Nat.reduceLT,Nat.reduceEqDiff,Bool.false_eq_true]
  ·obtain⟨n,rfl⟩:∃n:Nat,q=(n:Int):=⟨q.toNat,by omega⟩
   have hnw:n<1000000000000:=by omega
   have hu:IntKind.u64.wrap (n:Int)=(n:Int):=bz _ (by omega) (by omega)
   simp -implicitDefEqProofs only[↓reduceIte,go_sem,Nat.reduceAdd,Nat.reduceLT,Nat.reduceLeDiff,Nat.reduceEqDiff,t6,t12,hq0,hu,mW,hlen,zp]
   refine⟨by omega,by omega,?_⟩
   refine cl.cut [.arr 40 1 (k+1) (us (L++[n]))] [EI x] 1 rfl rfl (by simp -implicitDefEqProofs only[go_sem]) ?_
   refine⟨by rw[e1];simp,hpp (by omega),?_⟩
   simp -implicitDefEqProofs only[↓reduceIte,go_sem,Nat.reduceLT,Nat.reduceEqDiff,reduceCtorEq,t0,t10,t11,hw',Nat.lt_succ_self]
 ·rintro s H' ⟨rfl,hp,t0,t6,t10,t11,t12⟩
  have hg:=yN (words:=words) fun i hi=>hp i hi hi
  rw[List.take_length,hg]
  simp -implicitDefEqProofs only[↓reduceIte,go_sem,Nat.reduceLT,Nat.reduceEqDiff,t6,t11,t12]
  refine an.ret ?_
  simp -implicitDefEqProofs only[↓reduceIte,go_sem,Nat.reduceLT,Nat.reduceEqDiff,b8,mW]
theorem xe(words l:List al)(n1 n2:Bool)(H:aa)(hw:words.length≤1000000000000)(hl:l.length≤1000000000000):ag Tryz.prog 230 [.d (.list n1 (words.map al.enc)),.d (.list n2 (l.map al.enc))] H (.ok (sM words l)) H:=by
 have h:=uz words l n1 n2 H hw hl
 unfold sM wj yL
 cases hc:eW words l with
 |true=>rw[hc]at h;simpa using h
 |false=>
  rw[hc]at h
  simp only[Bool.false_eq_true,if_false]at h⊢
  exact h.kf (.cons .nil (.cons (.refl _) .nil))
end Go.Proofs.YtggohfhfocgilaaGreat
namespace Go.Proofs.YtggohfhfocgilaaGreat
open Go.Proofs.YtggohfhfocgilaaGreatAw Go.RowKit
namespace SV
def aH(H:aa)(id ver:Nat)(L:List al):aa:=H.set id (.arr 100 3 ver (L.map al.enc))
theorem cx{H:aa}{id:Nat}(h:id<H.length)(ver:Nat)(L:List al):(aH H id ver L)[id]?=some (.arr 100 3 ver (L.map al.enc)):=by simp[aH,h]
theorem eB(H:aa)(id ver:Nat)(L:List al)(v:Nat)(es:List (List D)):(aH H id ver L).set id (.arr 100 3 v es)=H.set id (.arr 100 3 v es):=by simp[aH]
theorem dT(H:aa)(id ver:Nat)(L:List al):H.set id (.arr 100 3 ver (L.map al.enc))=aH H id ver L:=rfl
theorem aG{L:List al}{i:Nat}{x:al}(h:L[i]?=some x):(L.map al.enc)[i]?=some (al.enc x):=by simp[h]
theorem cq(L:List al)(i:Nat)(x:al):(L.map al.enc).set i (al.enc x)=(L.set i x).map al.enc:=by simp[List.map_set]
theorem get_at{A B:List al}{x:al}{n:Nat}(h:A.length=n):(A++x::B)[n]?=some x:=by subst h;simp
theorem cy{A B:List al}{x y:al}{n:Nat}(h:A.length=n):(A++x::B).set n y=A++y::B:=by subst h;simp
def n7(P X M Y Q:List al)(k:Nat):List al:=P++Y.take k++(X.drop k++M++X.take k++(Y.drop k++Q))
theorem pC(P X M Y Q:List al):n7 P X M Y Q 0=P++X++M++Y++Q:=by simp[n7]
theorem sd(P X M Y Q:List al)(n:Nat)(h1:X.length=n)(h2:Y.length=n):n7 P X M Y Q n=P++Y++M++X++Q:=by
 unfold n7
 rw[List.take_of_length_le (by omega),List.drop_of_length_le (by omega),List.take_of_length_le (by omega),List.drop_of_length_le (by omega)]
 simp
theorem py(P X M Y Q:List al)(k:Nat)(hk:k<X.length)(h:X.length=Y.length):∃x y,(n7 P X M Y Q k)[P.length+k]?=some x∧(n7 P X M Y Q k)[P.length+X.length+M.length+k]?=some y∧
  ((n7 P X M Y Q k).set (P.length+k) y).set (P.length+X.length+M.length+k) x=n7 P X M Y Q (k+1):=by
 have hk2:k<Y.length:=by omega
 have e1:X.drop k=X[k]::X.drop (k+1):=List.drop_eq_getElem_cons hk
 have e2:Y.drop k=Y[k]::Y.drop (k+1):=List.drop_eq_getElem_cons hk2
 have e3:X.take (k+1)=X.take k++[X[k]]:=List.take_succ_eq_append_getElem hk
 have e4:Y.take (k+1)=Y.take k++[Y[k]]:=List.take_succ_eq_append_getElem hk2
 have l1:(P++Y.take k).length=P.length+k:=by simp;omega
 have l2:(X.drop (k+1)).length=X.length-(k+1):=by simp
 have l3:(X.take k).length=k:=by simp;omega
 unfold n7
 rw[e1,e2,e3,e4]
 generalize X[k]=x
 generalize Y[k]=y
 generalize X.drop (k+1)=X1 at*
 generalize Y.drop (k+1)=Y1 at*
 generalize X.take k=X0 at*
 generalize Y.take k=Y0 at*
 have a1:P++Y0++(x::X1++M++X0++(y::Y1++Q))=(P++Y0)++x::(X1++M++X0++(y::Y1++Q)):=by simp
 have a2:P++Y0++(x::X1++M++X0++(y::Y1++Q))=(P++Y0++x::X1++M++X0)++y::(Y1++Q):=by simp
 have a3:(P++Y0)++y::(X1++M++X0++(y::Y1++Q))=(P++Y0++y::X1++M++X0)++y::(Y1++Q):=by simp
 refine⟨x,y,?_,?_,?_⟩
 ·rw[a1];exact get_at l1
 ·rw[a2]
  refine get_at ?_
  simp only[List.length_append,List.length_cons,l2,l3]at*
  omega
 ·rw[a1,cy l1,a3,cy (by simp only[List.length_append,List.length_cons,l2,l3]at*;omega)]
  simp
theorem fZ(H:aa)(id ver:Nat)(hid:id<H.length)(g:FuncId)(caps:List AV)(P X M Y Q:List al)(a b n m:Nat)(ha:P.length=a)(hn:X.length=n)(hy:Y.length=n)(hb:P.length+X.length+M.length=b)
  (hm:(P++X++M++Y++Q).length=m) (hbig:m≤1000000000000):
  ag Tryz.prog 270 [.sl id ver 0 m,iA a,iA b,iA n,.fn g caps] (aH H id ver (P++X++M++Y++Q)) (.ok (.a7 [])) (aH H id ver (P++Y++M++X++Q)):=by
 have hml:P.length+X.length+M.length+Y.length+Q.length=m:=by rw[←hm];simp;omega
 generalize hE:aH H id ver (P++Y++M++X++Q)=E
 generalize hE0:aH H id ver (P++X++M++Y++Q)=E0
 refine ag.ai (hint:=(fun _=>false)) Tryz.func270 (by kernel_rfl) rfl [] (by kernel_rfl) (by decide) (by simp[Tryz.ntmps270]) ?_
 rw[Tryz.ntmps270]
 simp -implicitDefEqProofs only[go_sem]
 refine aA (fun k s H'=>H'=aH H id ver (n7 P X M Y Q k)∧s 0= .sl id ver 0 m∧s 1=iA a∧s 2=iA b∧s 3=iA n∧s 10=iA k) n (by omega) (ak.refl _ _) ?_ ?_ ?_
 ·refine⟨by rw[pC,hE0],?_⟩
  simp -implicitDefEqProofs only[↓reduceIte,go_sem,Nat.reduceLT,Nat.reduceEqDiff,reduceCtorEq]
 ·rintro k s H' hk hw ⟨rfl,t0,t1,t2,t3,t10⟩
  obtain⟨x,y,hx,hy2,hst⟩:=py P X M Y Q k (by omega) (by omega)
  rw[hb]at hy2 hst
  rw[ha]at hx hst
  obtain⟨i,hi⟩:∃i,i=a+k:=⟨_,rfl⟩
  obtain⟨j,hj⟩:∃j,j=b+k:=⟨_,rfl⟩
  have w1:IntKind.i64.wrap ((a:Int)+(k:Int))=(i:Int):=by rw[wrap64_in _ (by omega) (by omega)];omega
  have w2:IntKind.i64.wrap ((b:Int)+(k:Int))=(j:Int):=by rw[wrap64_in _ (by omega) (by omega)];omega
  rw[←hi]at hx hst
  rw[←hj]at hy2 hst
  have hil:i<m:=by omega
  have hjl:j<m:=by omega
  generalize n7 P X M Y Q k=L at*
  generalize n7 P X M Y Q (k+1)=L' at*
  have gx:=aG hx
  have gy:=aG hy2
  have gh:=cx hid ver L
  have s1:=cq L i y
  have s2:=cq (L.set i y) j x
  rw[hst]at s2
  have gy2:((L.set i y).map al.enc)[j]?=some (al.enc y):=by
   refine aG ?_
   rw[List.getElem?_set]
   by_cases hij:i=j
   ·omega
   ·rw[if_neg hij];exact hy2
  simp only[al.enc]at gx gy gy2 s1 s2
  simp -implicitDefEqProofs only[↓reduceIte,go_sem,Nat.reduceLT,Nat.reduceEqDiff,t3,t10,hk]
  refine ee [false,false,false,false,false,false,false,false,false,false,false,false,false,false,false,false,false,false,false,false,true,true,true,true] 20 K.mixed (by kernel_rfl) (by kernel_rfl) (by kernel_rfl) ?_
  simp -implicitDefEqProofs only[↓reduceIte,go_sem,ab,aq,Nat.reduceAdd,Nat.reduceLT,Nat.reduceEqDiff,reduceCtorEq,t0,t1,t2,t10,w1,w2,hil,hjl,gh,gx,gy,eB,s1,s2,gy2,hid,List.getElem?_set_self,List.set_set]
  refine cl.same ⟨by rw[←dT],?_⟩
  simp -implicitDefEqProofs only[↓reduceIte,go_sem,Nat.reduceLT,Nat.reduceEqDiff,reduceCtorEq,t0,t1,t2,t3,hw]
 ·rintro s H' ⟨rfl,t0,t1,t2,t3,t10⟩
  simp -implicitDefEqProofs only[↓reduceIte,go_sem,Nat.reduceLT,Nat.reduceEqDiff,t3,t10]
  rw[sd _ _ _ _ _ n hn hy,hE]
  exact⟨_,ak.refl _ _,rfl⟩
theorem dg(H:aa)(id ver:Nat)(hid:id<H.length)(g:FuncId)(caps:List AV)(P X M Y Q L L':List al)(a b n m:Nat)(hL:L=P++X++M++Y++Q)(hL':L'=P++Y++M++X++Q)(ha:P.length=a)(hn:X.length=n)(hy:Y.length=n)(hb:P.length+X.length+M.length=b)
  (hm:L.length=m) (hbig:m≤1000000000000):
  ag Tryz.prog 270 [.sl id ver 0 m,iA a,iA b,iA n,.fn g caps] (aH H id ver L) (.ok (.a7 [])) (aH H id ver L'):=by
 subst hL hL'
 exact fZ H id ver hid g caps P X M Y Q a b n m ha hn hy hb hm hbig
end SV
end Go.Proofs.YtggohfhfocgilaaGreat
namespace Go.Proofs.YtggohfhfocgilaaGreat
open Go.Proofs.YtggohfhfocgilaaGreatAw Go.RowKit
namespace SV
structure F5 where
 L:List al
 P:List al
 U:List al
 V:List al
 Q:List al
theorem j8(H:aa)(id ver:Nat)(hid:id<H.length)(g:FuncId)(caps:List AV)(P U V Q L T:List al)(hL:L=P++U++V++Q)(hT:T=P++V++U++Q)(a m b n:Nat)(ha:P.length=a)(hm:P.length+U.length=m)(hb:P.length+U.length+V.length=b)(hU:0<U.length)(hV:0<V.length)
  (hn:L.length=n) (hbig:n≤1000000000000):
  ag Tryz.prog 269 [.sl id ver 0 n,iA a,iA m,iA b,.fn g caps] (aH H id ver L) (.ok (.a7 [])) (aH H id ver T):=by
 have hnl:P.length+U.length+V.length+Q.length=n:=by rw[←hn,hL];simp;omega
 generalize hE0:aH H id ver L=E0
 have w1:IntKind.i64.wrap ((m:Int)-(a:Int))=((U.length:Nat):Int):=by rw[wrap64_in _ (by omega) (by omega)];omega
 have w2:IntKind.i64.wrap ((b:Int)-(m:Int))=((V.length:Nat):Int):=by rw[wrap64_in _ (by omega) (by omega)];omega
 refine ag.ai (hint:=(fun _=>false)) Tryz.func269 (by kernel_rfl) rfl [] (by kernel_rfl) (by decide) (by simp[Tryz.ntmps269]) ?_
 rw[Tryz.ntmps269]
 simp -implicitDefEqProofs only[↓reduceIte,go_sem,Nat.reduceLT,Nat.reduceEqDiff,w1,w2]
 refine bu _ _ _ _ (fun(x:F5) s H'=>H'=aH H id ver x.L∧x.L=x.P++x.U++x.V++x.Q∧T=x.P++x.V++x.U++x.Q∧x.P.length+x.U.length=m∧0<x.U.length∧0<x.V.length∧x.L.length=n∧
   s 0= .sl id ver 0 n∧s 2=iA m∧s 4= .fn g caps∧s 10=iA x.U.length∧s 11=iA x.V.length) (fun x=>x.U.length+x.V.length) ⟨L,P,U,V,Q⟩ (ak.refl _ _) ?_ ?_
 ·refine⟨hE0.symm,hL,hT,hm,hU,hV,hn,?_⟩
  simp -implicitDefEqProofs only[↓reduceIte,go_sem,Nat.reduceLT,Nat.reduceEqDiff,reduceCtorEq]
 ·rintro⟨L',P',U',V',Q'⟩ s H' ⟨rfl,hL',hT',hm',hU',hV',hn',t0,t2,t4,t10,t11⟩
  simp only at hL' hT' hm' hU' hV' hn' t0 t2 t4 t10 t11
  have hnl':P'.length+U'.length+V'.length+Q'.length=n:=by rw[←hn',hL'];simp;omega
  have w3:IntKind.i64.wrap ((m:Int)-(U'.length:Int))=((P'.length:Nat):Int):=by rw[wrap64_in _ (by omega) (by omega)];omega
  by_cases hij:U'.length=V'.length
  ·have hij':(((U'.length:Nat):Int) !=((V'.length:Nat):Int))=false:=by simp[hij]
   simp -implicitDefEqProofs only[↓reduceIte,go_sem,Nat.reduceLT,Nat.reduceEqDiff,reduceCtorEq,t10,t11,hij']
   simp -implicitDefEqProofs only[↓reduceIte,go_sem,Nat.reduceLT,Nat.reduceEqDiff,t0,t2,t4,t10,w3]
   refine ae.ok (dg H id ver hid g caps P' U' [] V' Q' L' T P'.length m U'.length n (by rw[hL'];simp) (by rw[hT'];simp) rfl rfl (by omega) (by simp;omega) hn' hbig) ?_
   simp -implicitDefEqProofs only[go_sem]
   exact⟨_,ak.refl _ _,rfl⟩
  ·have hij':(((U'.length:Nat):Int) !=((V'.length:Nat):Int))=true:=by simp;omega
   by_cases hgt:V'.length<U'.length
   ·have hgt':(((V'.length:Nat):Int)<((U'.length:Nat):Int))=True:=eq_true (by omega)
    have e1:U'.take V'.length++U'.drop V'.length=U':=List.take_append_drop _ _
    have l1:(U'.take V'.length).length=V'.length:=by simp;omega
    have l2:(U'.drop V'.length).length=U'.length-V'.length:=by simp
    generalize U'.take V'.length=X at*
    generalize U'.drop V'.length=Y at*
    have e2:=congrArg List.length e1
    simp only[List.length_append]at e2
    have w4:IntKind.i64.wrap (U'.length-(V'.length:Int))=((Y.length:Nat):Int):=by rw[wrap64_in _ (by omega) (by omega)];omega
    obtain⟨L2,hL2⟩:∃L2,L2=P'++V'++Y++X++Q':=⟨_,rfl⟩
    have hl2:L2.length=n:=by rw[hL2];simp only[List.length_append]at*;omega
    simp -implicitDefEqProofs only[↓reduceIte,go_sem,Nat.reduceLT,Nat.reduceEqDiff,reduceCtorEq,t10,t11,hij',hgt']
    simp -implicitDefEqProofs only[↓reduceIte,go_sem,Nat.reduceLT,Nat.reduceEqDiff,t0,t2,t4,t11,w3]
    refine ae.ok (dg H id ver hid g caps P' X Y V' Q' L' L2 P'.length m V'.length n (by rw[hL',←e1];simp) hL2 rfl l1 rfl (by omega) hn' hbig) ?_
    simp -implicitDefEqProofs only[↓reduceIte,go_sem,Nat.reduceLT,Nat.reduceEqDiff,t10,t11,w4]
    refine⟨_,_,⟨L2,P'++V',Y,X,Q'⟩,ak.refl _ _,⟨rfl,by rw[hL2];simp,by rw[hT',←e1];simp,?_,?_,?_,hl2,?_⟩,?_⟩
    ·simp only[List.length_append];omega
    ·simp only;omega
    ·simp only;omega
    ·simp -implicitDefEqProofs only[↓reduceIte,go_sem,Nat.reduceLT,Nat.reduceEqDiff,reduceCtorEq,t0,t2,t4,t11,l1]
    ·simp only;omega
   ·have hgt':(((V'.length:Nat):Int)<((U'.length:Nat):Int))=False:=eq_false (by omega)
    have e1:V'.take (V'.length-U'.length)++V'.drop (V'.length-U'.length)=V':=List.take_append_drop _ _
    have l1:(V'.take (V'.length-U'.length)).length=V'.length-U'.length:=by simp
    have l2:(V'.drop (V'.length-U'.length)).length=U'.length:=by simp;omega
    generalize V'.take (V'.length-U'.length)=Y at*
    generalize V'.drop (V'.length-U'.length)=Z at*
    have e2:=congrArg List.length e1
    simp only[List.length_append]at e2
    have w4:IntKind.i64.wrap (V'.length-(U'.length:Int))=((Y.length:Nat):Int):=by rw[wrap64_in _ (by omega) (by omega)];omega
    have w5:IntKind.i64.wrap ((m:Int)+(V'.length:Int))=(m:Int)+(V'.length:Int):=by rw[wrap64_in _ (by omega) (by omega)]
    have w6:IntKind.i64.wrap ((m:Int)+(V'.length:Int)-(U'.length:Int))=((m+Y.length:Nat):Int):=by rw[wrap64_in _ (by omega) (by omega)];omega
    obtain⟨L2,hL2⟩:∃L2,L2=P'++Z++Y++U'++Q':=⟨_,rfl⟩
    have hl2':L2.length=n:=by rw[hL2];simp only[List.length_append]at*;omega
    simp -implicitDefEqProofs only[↓reduceIte,go_sem,Nat.reduceLT,Nat.reduceEqDiff,reduceCtorEq,t10,t11,hij',hgt']
    simp -implicitDefEqProofs only[↓reduceIte,go_sem,Nat.reduceLT,Nat.reduceEqDiff,t0,t2,t4,t10,t11,w3,w5,w6]
    refine ae.ok (dg H id ver hid g caps P' U' Y Z Q' L' L2 P'.length (m+Y.length) U'.length n (by rw[hL',←e1];simp) hL2 rfl rfl l2 (by omega) hn' hbig) ?_
    simp -implicitDefEqProofs only[↓reduceIte,go_sem,Nat.reduceLT,Nat.reduceEqDiff,t10,t11,w4]
    refine⟨_,_,⟨L2,P',Z,Y,U'++Q'⟩,ak.refl _ _,⟨rfl,by rw[hL2];simp,by rw[hT',←e1];simp,?_,?_,?_,hl2',?_⟩,?_⟩
    ·simp only;omega
    ·simp only;omega
    ·simp only;omega
    ·simp -implicitDefEqProofs only[↓reduceIte,go_sem,Nat.reduceLT,Nat.reduceEqDiff,reduceCtorEq,t0,t2,t4,t10,l2]
    ·simp only;omega
end SV
end Go.Proofs.YtggohfhfocgilaaGreat
namespace Go.Proofs.YtggohfhfocgilaaGreat
open Go.Proofs.YtggohfhfocgilaaGreatAw Go.RowKit
namespace SV
def aV(c:al→al→Int)(x y:al):Bool:=decide (c x y<0)
def ek(g:FuncId)(caps:List AV)(c:al→al→Int)(H:aa)(id:Nat):Prop:=∀(o:ay) (x y:al),ag Tryz.prog g ([.agg ((al.enc x).map .d),.agg ((al.enc y).map .d)]++caps) (H.set id o) (.ok (iA (c x y))) (H.set id o)
theorem ek.at{g:FuncId}{caps:List AV}{c:al→al→Int}{H:aa}{id:Nat}(h:ek g caps c H id)(ver:Nat)(L:List al)(x y:al):ag Tryz.prog g ([.agg ((al.enc x).map .d),.agg ((al.enc y).map .d)]++caps) (aH H id ver L) (.ok (iA (c x y))) (aH H id ver L):=h _ x y
structure Gh where
 L:List al
 A:List al
 B:List al
theorem eu(H:aa)(id ver:Nat)(hid:id<H.length)(g:FuncId)(caps:List AV)(c:al→al→Int)(ho:St.Ord (aV c))(hc:ek g caps c H id)(P X Q L L':List al)(hL:L=P++X++Q)(hL':L'=P++St.aJ (aV c) X++Q)(a b n:Nat)(ha:P.length=a)(hb:P.length+X.length=b)
  (hn:L.length=n) (hbig:n≤1000000000000):
  ag Tryz.prog 267 [.sl id ver 0 n,iA a,iA b,.fn g caps] (aH H id ver L) (.ok (.a7 [])) (aH H id ver L'):=by
 have hnl:P.length+X.length+Q.length=n:=by rw[←hn,hL];simp;omega
 generalize hE0:aH H id ver L=E0
 have w1:IntKind.i64.wrap ((a:Int)+1)=(a:Int)+1:=wrap64_in _ (by omega) (by omega)
 refine ag.ai (hint:=(fun _=>false)) Tryz.func267 (by kernel_rfl) rfl [] (by kernel_rfl) (by decide) (by simp[Tryz.ntmps267]) ?_
 rw[Tryz.ntmps267]
 simp -implicitDefEqProofs only[↓reduceIte,go_sem,Nat.reduceLT,w1]
 refine aA (fun k s H'=>(∃Lk,H'=aH H id ver Lk∧Lk=P++(St.aJ (aV c) (X.take (k+1))++(X.drop (k+1)++Q)))∧s 0= .sl id ver 0 n∧s 1=iA a∧s 2=iA b∧s 3= .fn g caps∧s 8=iA ((a:Int)+1+(k:Int))) (X.length-1) (by omega) (ak.refl _ _) ?_ ?_ ?_
 ·refine⟨⟨L,hE0.symm,?_⟩,?_⟩
  ·have:St.aJ (aV c) (X.take 1)=X.take 1:=by cases X<;>rfl
   rw[hL,this,←List.append_assoc (X.take 1),List.take_append_drop,List.append_assoc]
  ·simp -implicitDefEqProofs only[↓reduceIte,go_sem,Nat.reduceLT,Nat.reduceEqDiff,reduceCtorEq,Int.add_zero]
 ·rintro k s H' hk hw ⟨⟨Lk,rfl,hLk⟩,t0,t1,t2,t3,t8⟩
  have hkx:k+1<X.length:=by omega
  have e1:X.drop (k+1)=X[k+1]::X.drop (k+1+1):=List.drop_eq_getElem_cons hkx
  have e2:X.take (k+1+1)=X.take (k+1)++[X[k+1]]:=List.take_succ_eq_append_getElem hkx
  have hSl:=St.aW (lt:=aV c) (X.take (k+1))
  have hXl:(X.take (k+1)).length=k+1:=by simp;omega
  have hRl:(X.drop (k+1+1)).length=X.length-(k+2):=by simp
  rw[e1]at hLk
  rw[e2]
  have hlt:((a:Int)+1+(k:Int)<(b:Int))=True:=eq_true (by omega)
  have hss:=St.cz ho (X.take (k+1))
  generalize X[k+1]=x at*
  generalize X.drop (k+1+1)=R0 at*
  generalize X.take (k+1)=X0 at*
  generalize hS:St.aJ (aV c) X0=S at*
  simp -implicitDefEqProofs only[↓reduceIte,go_sem,Nat.reduceLT,Nat.reduceEqDiff,t2,t8,hlt]
  refine bu _ _ _ _ (fun(z:Gh) s H'=>H'=aH H id ver z.L∧z.L=P++z.A++x::(z.B++(R0++Q))∧z.A++z.B=S∧(∀y∈z.B,aV c x y=true)∧s 0= .sl id ver 0 n∧s 1=iA a∧s 2=iA b∧s 3= .fn g caps∧s 8=iA ((a:Int)+1+(k:Int))∧s 9=iA ((a+z.A.length:Nat):Int)) (fun z=>z.A.length) ⟨Lk,S,[]⟩ (ak.refl _ _) ?_ ?_
  ·refine⟨rfl,by rw[hLk];simp,by simp,by simp,?_⟩
   simp -implicitDefEqProofs only[↓reduceIte,go_sem,Nat.reduceLT,Nat.reduceEqDiff,reduceCtorEq,t0,t1,t2,t3,t8,show((a:Int)+1+(k:Int))=((a+S.length:Nat):Int) by omega]
  ·rintro⟨L1,A,B⟩ s H' ⟨rfl,hL1,hAB,hB,t0,t1,t2,t3,t8,t9⟩
   simp only at hL1 hAB hB t0 t1 t2 t3 t8 t9
   have hABl:A.length+B.length=k+1:=by rw[←List.length_append,hAB,hSl,hXl]
   have hL1n:L1.length=n:=by rw[hL1];simp;omega
   have fin:(∀y∈A,aV c x y=false)→L1=P++(St.aJ (aV c) (X0++[x])++(R0++Q)):=fun hA=>by
    rw[hL1,←St.insert_eq ho (hAB.trans hS.symm) hB hA];simp
   obtain⟨j,hj⟩:∃j,j=a+A.length:=⟨_,rfl⟩
   rw[←hj]at t9
   have hw8:IntKind.i64.wrap ((a:Int)+1+(k:Int)+1)=(a:Int)+1+((k:Int)+1):=by rw[wrap64_in _ (by omega) (by omega)];omega
   rcases List.eq_nil_or_concat A with rfl|⟨A',z,rfl⟩
   ·have hja:((a:Int)<(j:Int))=False:=eq_false (by simp at hj;omega)
    simp -implicitDefEqProofs only[go_sem]
    refine aF K.mixed (by kernel_rfl) ?_
    simp -implicitDefEqProofs only[↓reduceIte,go_sem,Nat.reduceLT,Nat.reduceEqDiff,reduceCtorEq,t1,t9,hja,t8,hw8]
    refine cl.same ⟨⟨L1,rfl,fin (by simp)⟩,?_⟩
    simp -implicitDefEqProofs only[↓reduceIte,go_sem,Nat.reduceLT,Nat.reduceEqDiff,reduceCtorEq,t0,t1,t2,t3]
   ·simp only[List.concat_eq_append,List.length_append,List.length_singleton]at hL1 hAB hj hABl fin
    have hja:((a:Int)<(j:Int))=True:=eq_true (by omega)
    obtain⟨i,hi⟩:∃i,i=a+A'.length:=⟨_,rfl⟩
    have hw9:IntKind.i64.wrap ((j:Int)-1)=(i:Int):=by rw[wrap64_in _ (by omega) (by omega)];omega
    have hL1':L1=(P++A')++z::(x::(B++(R0++Q))):=by rw[hL1];simp
    have hL1'':L1=(P++A'++[z])++x::(B++(R0++Q)):=by rw[hL1];simp
    have gz:L1[i]?=some z:=by rw[hL1'];exact get_at (by simp;omega)
    have gx:L1[j]?=some x:=by rw[hL1''];exact get_at (by simp;omega)
    have il:i<n:=by omega
    have jl:j<n:=by omega
    have st:(L1.set j z).set i x=P++A'++x::(z::B++(R0++Q)):=by
     rw[hL1'',cy (by simp;omega)]
     have:P++A'++[z]++z::(B++(R0++Q))=(P++A')++z::(z::(B++(R0++Q))):=by simp
     rw[this,cy (by simp;omega)]
     simp
    have gz':=aG gz
    have gx':=aG gx
    have gz2:((L1.set j z).map al.enc)[i]?=some (al.enc z):=by
     refine aG ?_
     rw[List.getElem?_set,if_neg (by omega)];exact gz
    have s1:=cq L1 j z
    have s2:=cq (L1.set j z) i x
    rw[st]at s2
    have gh:=cx hid ver L1
    have hd:=hc.at ver L1 x z
    simp only[al.enc]at gz' gx' gz2 s1 s2
    try simp only[al.enc,List.map_cons,List.map_nil]at hd
    simp -implicitDefEqProofs only[go_sem]
    refine aF K.mixed (by kernel_rfl) ?_
    simp -implicitDefEqProofs only[↓reduceIte,go_sem,ab,Nat.reduceAdd,Nat.reduceLT,Nat.reduceEqDiff,reduceCtorEq,t0,t1,t3,t9,hja,hw9,il,jl,gh,gz',gx']
    refine ae.ok hd ?_
    by_cases hlt2:c x z<0
    ·have hltb:aV c x z=true:=by simp[aV,hlt2]
     simp -implicitDefEqProofs only[↓reduceIte,go_sem,Nat.reduceLT,Nat.reduceEqDiff,hlt2]
     refine ee [false,false,false,false,false,false,false,false,false,false,false,false,false,false,true,true,true,true] 14 K.mixed (by kernel_rfl) (by kernel_rfl) (by kernel_rfl) ?_
     simp -implicitDefEqProofs only[↓reduceIte,go_sem,ab,aq,Nat.reduceAdd,Nat.reduceLT,Nat.reduceEqDiff,reduceCtorEq,t0,t9,hw9,il,jl,gh,gz',gx',eB,s1,gz2,s2,hid,List.getElem?_set_self,List.set_set]
     refine⟨_,_,⟨_,A',z::B⟩,ak.refl _ _,⟨by rw[←dT],rfl,by rw[←hAB];simp,?_,?_⟩,by simp⟩
     ·intro y hy
      rcases List.mem_cons.1 hy with rfl|hy
      ·exact hltb
      ·exact hB y hy
     ·simp -implicitDefEqProofs only[↓reduceIte,go_sem,Nat.reduceLT,Nat.reduceEqDiff,reduceCtorEq,t0,t1,t2,t3,t8,show((a:Int)+(A'.length:Int))=(i:Int) by omega]
    ·have hltb:aV c x z=false:=by simp[aV,hlt2]
     have hAx:∀y∈A'++[z],aV c x y=false:=by
      intro y hy
      have hso:=hss
      rw[←hAB]at hso
      rcases List.mem_append.1 hy with hy|hy
      ·exact ho.le_trans (hso.left.tP y hy z (by simp)) hltb
      ·simp at hy;rw[hy];exact hltb
     simp -implicitDefEqProofs only[↓reduceIte,go_sem,Nat.reduceLT,Nat.reduceEqDiff,hlt2,t8,hw8]
     refine cl.same ⟨⟨L1,rfl,fin hAx⟩,?_⟩
     simp -implicitDefEqProofs only[↓reduceIte,go_sem,Nat.reduceLT,Nat.reduceEqDiff,reduceCtorEq,t0,t1,t2,t3]
 ·rintro s H' ⟨⟨Lk,rfl,hLk⟩,t0,t1,t2,t3,t8⟩
  have hlt:((a:Int)+1+((X.length-1:Nat):Int)<(b:Int))=False:=eq_false (by omega)
  simp -implicitDefEqProofs only[↓reduceIte,go_sem,Nat.reduceLT,Nat.reduceEqDiff,t2,t8,hlt]
  have:Lk=L':=by
   rw[hLk,hL',List.take_of_length_le (by omega),List.drop_of_length_le (by omega)];simp
  rw[this]
  exact⟨_,ak.refl _ _,rfl⟩
end SV
end Go.Proofs.YtggohfhfocgilaaGreat
namespace Go.Proofs.YtggohfhfocgilaaGreat
open Go.Proofs.YtggohfhfocgilaaGreatAw Go.RowKit
namespace SV
theorem fC(n:Nat)(h:n≤2000000000000):IntKind.i64.wrap (lE .u64 (IntKind.u64.wrap (n:Int)) 1)=((n/2:Nat):Int):=by
 rw[c9 n (by omega)]
 have:=uW n 1 (by decide)
 rw[show((1:Nat):Int)=1 from rfl]at this
 rw[this]
 exact CU _ (by omega)
theorem iq{L P R:List al}{x y:al}(h:L=P++x::y::R){i:Nat}(hi:P.length=i):L[i]?=some x∧L[i+1]?=some y∧(L.set i y)[i+1]?=some y∧(L.set (i+1) x)[i]?=some x∧(L.set i y).set (i+1) x=P++y::x::R∧(L.set (i+1) x).set i y=P++y::x::R:=by
 subst h hi
 have e:P++x::y::R=(P++[x])++y::R:=by simp
 have e2:∀z:al,P++z::y::R=(P++[z])++y::R:=by simp
 have h1:∀z:al,(P++[z]).length=P.length+1:=by simp
 refine⟨get_at rfl,by rw[e];exact get_at (h1 x),?_,?_,?_,?_⟩
 ·rw[cy rfl,e2];exact get_at (h1 y)
 ·rw[e,cy (h1 x)]
  have:P++[x]++x::R=P++x::(x::R):=by simp
  rw[this];exact get_at rfl
 ·rw[cy rfl,e2,cy (h1 y)];simp
 ·rw[e,cy (h1 x)]
  have:P++[x]++x::R=P++x::(x::R):=by simp
  rw[this,cy rfl]
theorem xP{P X Y Q L:List al}{a:Nat}(hL:L=P++X++Y++Q)(ha:P.length=a):∀i x,X[i]?=some x→L[a+i]?=some x:=fun i x hx=>by
 have:=(List.getElem?_eq_some_iff.1 hx).1
 rw[hL,List.append_assoc,List.append_assoc,←ha,List.getElem?_append_right (by omega),List.getElem?_append_left (by omega),Nat.add_sub_cancel_left]
 exact hx
theorem yJ{P X Y Q L:List al}{m:Nat}(hL:L=P++X++Y++Q)(hm:P.length+X.length=m):∀i y,Y[i]?=some y→L[m+i]?=some y:=fun i y hy=>by
 have:=(List.getElem?_eq_some_iff.1 hy).1
 rw[hL,List.append_assoc (P++X),←hm,List.getElem?_append_right (by simp),List.getElem?_append_left (by simp;omega)]
 simpa[Nat.add_sub_cancel_left]using hy
theorem mS(H:aa)(id ver:Nat)(hid:id<H.length)(g:FuncId)(caps:List AV)(c:al→al→Int)(ho:St.Ord (aV c))(hc:ek g caps c H id)(n:Nat)(hbig:n≤1000000000000)(P X Y Q L L':List al)(a m b:Nat)
  (hL:L=P++X++Y++Q) (hL':L'=P++St.aJ (aV c) (X++Y)++Q) (ha:P.length=a) (hm:P.length+X.length=m) (hb:P.length+X.length+Y.length=b) (hX0:0<X.length) (hY0:0<Y.length) (hX:St.aw (aV c) X) (hY:St.aw (aV c) Y) (hn:L.length=n) (h1:X.length=1):
  ag Tryz.prog 268 [.sl id ver 0 n,iA a,iA m,iA b,.fn g caps] (aH H id ver L) (.ok (.a7 [])) (aH H id ver L'):=by
 have hnl:P.length+X.length+Y.length+Q.length=n:=by rw[←hn,hL];simp;omega
 have w1:IntKind.i64.wrap ((m:Int)-(a:Int))=((X.length:Nat):Int):=by rw[wrap64_in _ (by omega) (by omega)];omega
 have w2:IntKind.i64.wrap ((b:Int)-(m:Int))=((Y.length:Nat):Int):=by rw[wrap64_in _ (by omega) (by omega)];omega
 have hLX:=xP hL ha
 have hLY:=yJ hL hm
 generalize hE0:aH H id ver L=E0
 have gh:=cx hid ver L
 rw[hE0]at gh
 have hcE:∀x y:al,ag Tryz.prog g ([.agg ((al.enc x).map .d),.agg ((al.enc y).map .d)]++caps) E0 (.ok (iA (c x y))) E0:=fun x y=>by rw[←hE0];exact hc.at ver L x y
 refine ag.ai (hint:=(fun _=>false)) Tryz.func268 (by kernel_rfl) rfl [] (by kernel_rfl) (by decide) (by simp[Tryz.ntmps268]) ?_
 rw[Tryz.ntmps268]
 obtain⟨x,rfl⟩:∃x,X=[x]:=List.length_eq_one_iff.1 h1
 simp -implicitDefEqProofs only[↓reduceIte,go_sem,Nat.reduceLT,Nat.reduceEqDiff,w1,h1]
 refine bu _ _ _ _ (fun(z:Nat×Nat) s H'=>H'=E0∧z.1≤z.2∧z.2≤Y.length∧(z.1=0∨∃y,Y[z.1-1]?=some y∧aV c y x=true)∧(z.2=Y.length∨∃y,Y[z.2]?=some y∧aV c y x=false)∧
  s 0= .sl id ver 0 n∧s 1=iA a∧s 4= .fn g caps∧s 10=iA ((m+z.1:Nat):Int)∧s 11=iA ((m+z.2:Nat):Int)) (fun z=>z.2-z.1) (0,Y.length) (ak.refl _ _) ?_ ?_
 ·refine⟨rfl,Nat.zero_le _,Nat.le_refl _,.inl rfl,.inl rfl,?_⟩
  simp -implicitDefEqProofs only[↓reduceIte,go_sem,Nat.reduceLT,Nat.reduceEqDiff,reduceCtorEq,show m+Y.length=b by omega,Nat.add_zero]
 ·rintro⟨i,j⟩ s H' ⟨rfl,hij,hj,hlo,hhi,t0,t1,t4,t10,t11⟩
  simp only at hij hj hlo hhi t10 t11
  obtain⟨i',hi'⟩:∃i',i'=m+i:=⟨_,rfl⟩
  obtain⟨j',hj'⟩:∃j',j'=m+j:=⟨_,rfl⟩
  rw[←hi']at t10
  rw[←hj']at t11
  have f1:((m:Int)+(i:Int))=(i':Int):=by omega
  have f2:((m:Int)+(j:Int))=(j':Int):=by omega
  by_cases hlt:i<j
  ·obtain⟨q,hq⟩:∃q,q=i'+j':=⟨_,rfl⟩
   have w3:IntKind.i64.wrap ((i':Int)+(j':Int))=(q:Int):=by rw[wrap64_in _ (by omega) (by omega)];omega
   have w4:=fC q (by omega)
   obtain⟨h,hh⟩:∃h,h=q/2:=⟨_,rfl⟩
   rw[←hh]at w4
   obtain⟨y,hy⟩:∃y,Y[h-m]?=some y:=⟨_,List.getElem?_eq_getElem (show h-m<Y.length by omega)⟩
   have gy:=aG (hLY _ _ hy)
   rw[show m+(h-m)=h by omega]at gy
   have gx:=aG (hLX 0 x rfl)
   rw[Nat.add_zero]at gx
   have hd:=hcE y x
   simp only[al.enc]at gx gy
   try simp only[al.enc,List.map_cons,List.map_nil]at hd
   have hln:h<n:=by omega
   have han:a<n:=by omega
   simp -implicitDefEqProofs only[↓reduceIte,go_sem,Nat.reduceLT,Nat.reduceEqDiff,Int.reduceLE,t10,t11,show((i':Int)<(j':Int))=True from eq_true (by omega),w3,w4]
   refine aF K.mixed (by kernel_rfl) ?_
   simp -implicitDefEqProofs only[↓reduceIte,go_sem,ab,Nat.reduceAdd,Nat.reduceLT,Nat.reduceEqDiff,reduceCtorEq,t0,t1,t4,gh,gx,gy,hln,han]
   refine ae.ok hd ?_
   by_cases hcc:c y x<0
   ·have hw5:IntKind.i64.wrap ((h:Int)+1)=((m+(h-m+1):Nat):Int):=by rw[wrap64_in _ (by omega) (by omega)];omega
    obtain⟨h2,hh2⟩:∃h2,h2=m+(h-m+1):=⟨_,rfl⟩
    rw[←hh2]at hw5
    simp -implicitDefEqProofs only[↓reduceIte,go_sem,Nat.reduceLT,Nat.reduceEqDiff,hcc,hw5]
    refine⟨_,_,(h-m+1,j),ak.refl _ _,⟨rfl,by simp only;omega,hj,.inr ⟨y,by simpa using hy,by simp[aV,hcc]⟩,hhi,?_⟩,by simp only;omega⟩
    simp -implicitDefEqProofs only[↓reduceIte,go_sem,Nat.reduceLT,Nat.reduceEqDiff,reduceCtorEq,t0,t1,t4,t11,show((m:Int)+(((h-m:Nat):Int)+1))=(h2:Int) by omega,f2]
   ·simp -implicitDefEqProofs only[↓reduceIte,go_sem,Nat.reduceLT,Nat.reduceEqDiff,hcc]
    refine⟨_,_,(i,h-m),ak.refl _ _,⟨rfl,by simp only;omega,by simp only;omega,hlo,.inr ⟨y,hy,by simp[aV,hcc]⟩,?_⟩,by simp only;omega⟩
    simp -implicitDefEqProofs only[↓reduceIte,go_sem,Nat.reduceLT,Nat.reduceEqDiff,reduceCtorEq,t0,t1,t4,t10,show((m:Int)+((h-m:Nat):Int))=(h:Int) by omega,f1]
  ·obtain rfl:j=i:=by omega
   have hmg:=St.q8 ho hY hj hlo hhi
   have hw6:IntKind.i64.wrap ((i':Int)-1)=(i':Int)-1:=wrap64_in _ (by omega) (by omega)
   simp -implicitDefEqProofs only[↓reduceIte,go_sem,Nat.reduceLT,Nat.reduceEqDiff,t10,t11,show((i':Int)<(j':Int))=False from eq_false (by omega),t1]
   refine aA (fun k s H'=>(∃Lk,H'=aH H id ver Lk∧Lk=P++Y.take k++x::(Y.drop k++Q))∧s 0= .sl id ver 0 n∧s 10=iA i'∧s 13=iA ((a:Int)+(k:Int))) j (by omega) (ak.refl _ _) ?_ ?_ ?_
   ·refine⟨⟨L,hE0.symm,by rw[hL];simp⟩,?_⟩
    simp -implicitDefEqProofs only[↓reduceIte,go_sem,Nat.reduceLT,Nat.reduceEqDiff,reduceCtorEq,t0,t10,Int.add_zero]
   ·rintro k s H' hk hw ⟨⟨Lk,rfl,hLk⟩,t0,t10,t13⟩
    have hkY:k<Y.length:=by omega
    have e1:Y.drop k=Y[k]::Y.drop (k+1):=List.drop_eq_getElem_cons hkY
    have e2:Y.take (k+1)=Y.take k++[Y[k]]:=List.take_succ_eq_append_getElem hkY
    rw[e1]at hLk
    rw[e2]
    have l1:(P++Y.take k).length=a+k:=by simp;omega
    generalize Y[k]=y at*
    generalize Y.drop (k+1)=Y1 at*
    generalize Y.take k=Y0 at*
    obtain⟨u,hu⟩:∃u,u=a+k:=⟨_,rfl⟩
    obtain⟨v,hv⟩:∃v,v=u+1:=⟨_,rfl⟩
    rw[←hu]at l1
    obtain⟨g1,g2,g3,_,g5,_⟩:=iq (L:=Lk) (P:=P++Y0) (x:=x) (y:=y) (R:=Y1++Q) (by rw[hLk];simp) l1
    rw[←hv]at g2 g3 g5
    have f3:((a:Int)+(k:Int))=(u:Int):=by omega
    have hw7:IntKind.i64.wrap ((u:Int)+1)=(v:Int):=by rw[wrap64_in _ (by omega) (by omega)];omega
    rw[f3]at t13
    have gg:=cx hid ver Lk
    have q1:=aG g1
    have q2:=aG g2
    have q3:=aG g3
    have s1:=cq Lk u y
    have s2:=cq (Lk.set u y) v x
    rw[g5]at s2
    have hun:u<n:=by omega
    have hvn:v<n:=by omega
    simp only[al.enc]at q1 q2 q3 s1 s2
    simp -implicitDefEqProofs only[↓reduceIte,go_sem,Nat.reduceLT,Nat.reduceEqDiff,t10,t13,hw6,show((u:Int)<(i':Int)-1)=True from eq_true (by omega)]
    refine ee [false,false,false,false,false,false,false,false,false,false,false,false,false,false,true,true,true,true] 14 K.mixed (by kernel_rfl) (by kernel_rfl) (by kernel_rfl) ?_
    simp -implicitDefEqProofs only[↓reduceIte,go_sem,ab,aq,Nat.reduceAdd,Nat.reduceLT,Nat.reduceEqDiff,reduceCtorEq,t0,t13,hw7,hun,hvn,gg,q1,q2,q3,s1,s2,eB,hid,List.getElem?_set_self,List.set_set]
    refine cl.same ⟨⟨_,by rw[←dT],by simp⟩,?_⟩
    simp -implicitDefEqProofs only[↓reduceIte,go_sem,Nat.reduceLT,Nat.reduceEqDiff,reduceCtorEq,t0,t10,show((a:Int)+((k:Int)+1))=(v:Int) by omega]
   ·rintro s H' ⟨⟨Lk,rfl,hLk⟩,t0,t10,t13⟩
    simp -implicitDefEqProofs only[↓reduceIte,go_sem,Nat.reduceLT,Nat.reduceEqDiff,t10,t13,hw6,show((a:Int)+(j:Int)<(i':Int)-1)=False from eq_false (by omega)]
    have:Lk=L':=by rw[hLk,hL',List.singleton_append,←hmg];simp
    rw[this]
    exact⟨_,ak.refl _ _,rfl⟩
theorem mX(H:aa)(id ver:Nat)(hid:id<H.length)(g:FuncId)(caps:List AV)(c:al→al→Int)(ho:St.Ord (aV c))(hc:ek g caps c H id)(n:Nat)(hbig:n≤1000000000000)(P X Y Q L L':List al)(a m b:Nat)
  (hL:L=P++X++Y++Q) (hL':L'=P++St.aJ (aV c) (X++Y)++Q) (ha:P.length=a) (hm:P.length+X.length=m) (hb:P.length+X.length+Y.length=b) (hX0:0<X.length) (hY0:0<Y.length) (hX:St.aw (aV c) X) (hY:St.aw (aV c) Y) (hn:L.length=n) (h1:¬X.length=1) (h2:Y.length=1):
  ag Tryz.prog 268 [.sl id ver 0 n,iA a,iA m,iA b,.fn g caps] (aH H id ver L) (.ok (.a7 [])) (aH H id ver L'):=by
 have hnl:P.length+X.length+Y.length+Q.length=n:=by rw[←hn,hL];simp;omega
 have w1:IntKind.i64.wrap ((m:Int)-(a:Int))=((X.length:Nat):Int):=by rw[wrap64_in _ (by omega) (by omega)];omega
 have w2:IntKind.i64.wrap ((b:Int)-(m:Int))=((Y.length:Nat):Int):=by rw[wrap64_in _ (by omega) (by omega)];omega
 have hLX:=xP hL ha
 have hLY:=yJ hL hm
 generalize hE0:aH H id ver L=E0
 have gh:=cx hid ver L
 rw[hE0]at gh
 have hcE:∀x y:al,ag Tryz.prog g ([.agg ((al.enc x).map .d),.agg ((al.enc y).map .d)]++caps) E0 (.ok (iA (c x y))) E0:=fun x y=>by rw[←hE0];exact hc.at ver L x y
 refine ag.ai (hint:=(fun _=>false)) Tryz.func268 (by kernel_rfl) rfl [] (by kernel_rfl) (by decide) (by simp[Tryz.ntmps268]) ?_
 rw[Tryz.ntmps268]
 obtain⟨y,rfl⟩:∃y,Y=[y]:=List.length_eq_one_iff.1 h2
 simp -implicitDefEqProofs only[↓reduceIte,go_sem,Nat.reduceLT,Nat.reduceEqDiff,w1,w2,show(((X.length:Nat):Int)=1)=False from eq_false (by omega),h2]
 refine bu _ _ _ _ (fun(z:Nat×Nat) s H'=>H'=E0∧z.1≤z.2∧z.2≤X.length∧(z.1=0∨∃x,X[z.1-1]?=some x∧aV c y x=false)∧(z.2=X.length∨∃x,X[z.2]?=some x∧aV c y x=true)∧
  s 0= .sl id ver 0 n∧s 2=iA m∧s 4= .fn g caps∧s 14=iA ((a+z.1:Nat):Int)∧s 15=iA ((a+z.2:Nat):Int)) (fun z=>z.2-z.1) (0,X.length) (ak.refl _ _) ?_ ?_
 ·refine⟨rfl,Nat.zero_le _,Nat.le_refl _,.inl rfl,.inl rfl,?_⟩
  simp -implicitDefEqProofs only[↓reduceIte,go_sem,Nat.reduceLT,Nat.reduceEqDiff,reduceCtorEq,show((a:Int)+((X.length:Nat):Int))=(m:Int) by omega,Nat.add_zero]
 ·rintro⟨i,j⟩ s H' ⟨rfl,hij,hj,hlo,hhi,t0,t2,t4,t14,t15⟩
  simp only at hij hj hlo hhi t14 t15
  obtain⟨i',hi'⟩:∃i',i'=a+i:=⟨_,rfl⟩
  obtain⟨j',hj'⟩:∃j',j'=a+j:=⟨_,rfl⟩
  rw[←hi']at t14
  rw[←hj']at t15
  have f1:((a:Int)+(i:Int))=(i':Int):=by omega
  have f2:((a:Int)+(j:Int))=(j':Int):=by omega
  by_cases hlt:i<j
  ·obtain⟨q,hq⟩:∃q,q=i'+j':=⟨_,rfl⟩
   have w3:IntKind.i64.wrap ((i':Int)+(j':Int))=(q:Int):=by rw[wrap64_in _ (by omega) (by omega)];omega
   have w4:=fC q (by omega)
   obtain⟨h,hh⟩:∃h,h=q/2:=⟨_,rfl⟩
   rw[←hh]at w4
   obtain⟨x,hx⟩:∃x,X[h-a]?=some x:=⟨_,List.getElem?_eq_getElem (show h-a<X.length by omega)⟩
   have gx:=aG (hLX _ _ hx)
   rw[show a+(h-a)=h by omega]at gx
   have gy:=aG (hLY 0 y rfl)
   rw[Nat.add_zero]at gy
   have hd:=hcE y x
   simp only[al.enc]at gx gy
   try simp only[al.enc,List.map_cons,List.map_nil]at hd
   have hln:h<n:=by omega
   have hmn:m<n:=by omega
   simp -implicitDefEqProofs only[↓reduceIte,go_sem,Nat.reduceLT,Nat.reduceEqDiff,Int.reduceLE,t14,t15,show((i':Int)<(j':Int))=True from eq_true (by omega),w3,w4]
   refine aF K.mixed (by kernel_rfl) ?_
   simp -implicitDefEqProofs only[↓reduceIte,go_sem,ab,Nat.reduceAdd,Nat.reduceLT,Nat.reduceEqDiff,reduceCtorEq,t0,t2,t4,gh,gx,gy,hln,hmn]
   refine ae.ok hd ?_
   by_cases hcc:c y x<0
   ·simp -implicitDefEqProofs only[↓reduceIte,go_sem,Nat.reduceLT,Nat.reduceEqDiff,hcc]
    refine⟨_,_,(i,h-a),ak.refl _ _,⟨rfl,by simp only;omega,by simp only;omega,hlo,.inr ⟨x,hx,by simp[aV,hcc]⟩,?_⟩,by simp only;omega⟩
    simp -implicitDefEqProofs only[↓reduceIte,go_sem,Nat.reduceLT,Nat.reduceEqDiff,reduceCtorEq,t0,t2,t4,t14,show((a:Int)+((h-a:Nat):Int))=(h:Int) by omega,f1]
   ·have hw5:IntKind.i64.wrap ((h:Int)+1)=((a+(h-a+1):Nat):Int):=by rw[wrap64_in _ (by omega) (by omega)];omega
    obtain⟨h2,hh2⟩:∃h2,h2=a+(h-a+1):=⟨_,rfl⟩
    rw[←hh2]at hw5
    simp -implicitDefEqProofs only[↓reduceIte,go_sem,Nat.reduceLT,Nat.reduceEqDiff,hcc,hw5]
    refine⟨_,_,(h-a+1,j),ak.refl _ _,⟨rfl,by simp only;omega,hj,.inr ⟨x,by simpa using hx,by simp[aV,hcc]⟩,hhi,?_⟩,by simp only;omega⟩
    simp -implicitDefEqProofs only[↓reduceIte,go_sem,Nat.reduceLT,Nat.reduceEqDiff,reduceCtorEq,t0,t2,t4,t15,show((a:Int)+(((h-a:Nat):Int)+1))=(h2:Int) by omega,f2]
  ·obtain rfl:j=i:=by omega
   have hmg:=St.pw ho hX hj hhi hlo
   simp -implicitDefEqProofs only[↓reduceIte,go_sem,Nat.reduceLT,Nat.reduceEqDiff,t14,t15,show((i':Int)<(j':Int))=False from eq_false (by omega),t2]
   refine bu _ _ _ _ (fun(k:Nat) s H'=>k≤X.length-j∧(∃Lk,H'=aH H id ver Lk∧Lk=P++X.take (j+k)++y::(X.drop (j+k)++Q))∧s 0= .sl id ver 0 n∧s 14=iA i'∧s 17=iA ((i':Int)+(k:Int))) (fun k=>k) (X.length-j) (ak.refl _ _) ?_ ?_
   ·refine⟨Nat.le_refl _,⟨L,hE0.symm,?_⟩,?_⟩
    ·rw[show j+(X.length-j)=X.length by omega,List.take_length,List.drop_length,hL];simp
    ·simp -implicitDefEqProofs only[↓reduceIte,go_sem,Nat.reduceLT,Nat.reduceEqDiff,reduceCtorEq,t0,t14,show((i':Int)+((X.length-j:Nat):Int))=(m:Int) by omega]
   ·rintro k s H' ⟨hkx,⟨Lk,rfl,hLk⟩,t0,t14,t17⟩
    cases k with
    |zero=>
     simp -implicitDefEqProofs only[↓reduceIte,go_sem,Nat.reduceLT,Nat.reduceEqDiff,t14,t17,Int.add_zero,Int.lt_irrefl]
     have:Lk=L':=by rw[hLk,hL',Nat.add_zero,←hmg];simp
     rw[this]
     exact⟨_,ak.refl _ _,rfl⟩
    |succ k=>
     have hkX:j+k<X.length:=by omega
     have e1:X.drop (j+k)=X[j+k]::X.drop (j+k+1):=List.drop_eq_getElem_cons hkX
     have e2:X.take (j+k+1)=X.take (j+k)++[X[j+k]]:=List.take_succ_eq_append_getElem hkX
     rw[show j+(k+1)=j+k+1 by omega,e2]at hLk
     have l1:(P++X.take (j+k)).length=i'+k:=by simp;omega
     obtain⟨u,hu⟩:∃u,u=i'+k:=⟨_,rfl⟩
     obtain⟨v,hv⟩:∃v,v=u+1:=⟨_,rfl⟩
     rw[←hu]at l1
     have fk:((i':Int)+((k+1:Nat):Int))=(v:Int):=by omega
     have fk2:((i':Int)+(k:Int))=(u:Int):=by omega
     rw[fk]at t17
     generalize X[j+k]=x at*
     generalize X.drop (j+k+1)=X1 at*
     obtain⟨g1,g2,_,g4,_,g6⟩:=iq (L:=Lk) (P:=P++X.take (j+k)) (x:=x) (y:=y) (R:=X1++Q) (by rw[hLk];simp) l1
     rw[←hv]at g2 g4 g6
     have hw7:IntKind.i64.wrap ((v:Int)-1)=(u:Int):=by rw[wrap64_in _ (by omega) (by omega)];omega
     have gg:=cx hid ver Lk
     have q1:=aG g1
     have q2:=aG g2
     have q4:=aG g4
     have s1:=cq Lk v x
     have s2:=cq (Lk.set v x) u y
     rw[g6]at s2
     have hun:u<n:=by omega
     have hvn:v<n:=by omega
     simp only[al.enc]at q1 q2 q4 s1 s2
     simp -implicitDefEqProofs only[↓reduceIte,go_sem,Nat.reduceLT,Nat.reduceEqDiff,t14,t17,show((i':Int)<(v:Int))=True from eq_true (by omega)]
     refine ee [false,false,false,false,false,false,false,false,false,false,false,false,false,false,true,true,true,true] 14 K.mixed (by kernel_rfl) (by kernel_rfl) (by kernel_rfl) ?_
     simp -implicitDefEqProofs only[↓reduceIte,go_sem,ab,aq,Nat.reduceAdd,Nat.reduceLT,Nat.reduceEqDiff,reduceCtorEq,t0,t17,hw7,hun,hvn,gg,q1,q2,q4,s1,s2,eB,hid,List.getElem?_set_self,List.set_set]
     refine⟨_,_,k,ak.refl _ _,⟨by omega,⟨_,by rw[←dT],by rw[e1];simp⟩,?_⟩,by omega⟩
     simp -implicitDefEqProofs only[↓reduceIte,go_sem,Nat.reduceLT,Nat.reduceEqDiff,reduceCtorEq,t0,t14,fk2]
end SV
end Go.Proofs.YtggohfhfocgilaaGreat
namespace Go.Proofs.YtggohfhfocgilaaGreat
open Go.Proofs.YtggohfhfocgilaaGreatAw Go.RowKit
namespace SV
def Hid(p:Prop):Prop:=p
theorem mQ{a m b q mid n0 s0 r0 lx ly:Nat}(hm:a+lx=m)(hb:a+lx+ly=b)(hq:q=a+b)(hmid:mid=q/2)(hn0:n0=mid+m)(hs0:s0=if mid<m then n0-b else a)(hr0:r0=if mid<m then mid else m)(hx:0<lx)(hy:0<ly)(h1:¬lx=1):
  (s0≤r0∧a≤s0∧r0≤m∧r0≤mid)∧(n0≤b+s0∧mid<b∧a<mid)∧Hid (r0=m∨n0=m+r0)∧Hid (s0=a∨n0=b+s0)∧m+r0≤n0∧(mid<m→b≤n0):=by
 by_cases h:mid<m
 ·rw[if_pos h]at hs0 hr0;unfold Hid;omega
 ·rw[if_neg h]at hs0 hr0;unfold Hid;omega
theorem na(H:aa)(id ver:Nat)(hid:id<H.length)(g:FuncId)(caps:List AV)(c:al→al→Int)(ho:St.Ord (aV c))(hc:ek g caps c H id)(n:Nat)(hbig:n≤1000000000000)(P X Y Q L L':List al)(a m b:Nat)
  (hL:L=P++X++Y++Q) (hL':L'=P++St.aJ (aV c) (X++Y)++Q) (ha:P.length=a) (hm:P.length+X.length=m) (hb:P.length+X.length+Y.length=b) (hX0:0<X.length) (hY0:0<Y.length) (hX:St.aw (aV c) X) (hY:St.aw (aV c) Y) (hn:L.length=n) (h1:¬X.length=1) (h2:¬Y.length=1)
  (ih:∀(P' X' Y' Q' L1 L2:List al) (a' m' b':Nat),X'.length+Y'.length<X.length+Y.length→L1=P'++X'++Y'++Q'→L2=P'++St.aJ (aV c) (X'++Y')++Q'→P'.length=a'→P'.length+X'.length=m'→P'.length+X'.length+Y'.length=b'→0<X'.length→0<Y'.length→
   St.aw (aV c) X'→St.aw (aV c) Y'→L1.length=n→ag Tryz.prog 268 [.sl id ver 0 n,iA a',iA m',iA b',.fn g caps] (aH H id ver L1) (.ok (.a7 [])) (aH H id ver L2)):
  ag Tryz.prog 268 [.sl id ver 0 n,iA a,iA m,iA b,.fn g caps] (aH H id ver L) (.ok (.a7 [])) (aH H id ver L'):=by
 have hnl:P.length+X.length+Y.length+Q.length=n:=by rw[←hn,hL];simp;omega
 have w1:IntKind.i64.wrap ((m:Int)-(a:Int))=((X.length:Nat):Int):=by rw[wrap64_in _ (by omega) (by omega)];omega
 have w2:IntKind.i64.wrap ((b:Int)-(m:Int))=((Y.length:Nat):Int):=by rw[wrap64_in _ (by omega) (by omega)];omega
 have hLX:=xP hL ha
 have hLY:=yJ hL hm
 generalize hE0:aH H id ver L=E0
 have gh:=cx hid ver L
 rw[hE0]at gh
 have hcE:∀x y:al,ag Tryz.prog g ([.agg ((al.enc x).map .d),.agg ((al.enc y).map .d)]++caps) E0 (.ok (iA (c x y))) E0:=fun x y=>by rw[←hE0];exact hc.at ver L x y
 refine ag.ai (hint:=(fun _=>false)) Tryz.func268 (by kernel_rfl) rfl [] (by kernel_rfl) (by decide) (by simp[Tryz.ntmps268]) ?_
 rw[Tryz.ntmps268]
 obtain⟨q,hq⟩:∃q,q=a+b:=⟨_,rfl⟩
 obtain⟨mid,hmid⟩:∃mid,mid=q/2:=⟨_,rfl⟩
 obtain⟨n0,hn0⟩:∃n0,n0=mid+m:=⟨_,rfl⟩
 obtain⟨p,hp⟩:∃p,p=n0-1:=⟨_,rfl⟩
 have w3:IntKind.i64.wrap ((a:Int)+(b:Int))=(q:Int):=by rw[wrap64_in _ (by omega) (by omega)];omega
 have w4:=fC q (by omega)
 rw[←hmid]at w4
 have w5:IntKind.i64.wrap ((mid:Int)+(m:Int))=(n0:Int):=by rw[wrap64_in _ (by omega) (by omega)];omega
 have w6:IntKind.i64.wrap ((n0:Int)-1)=(p:Int):=by rw[wrap64_in _ (by omega) (by omega)];omega
 obtain⟨s0,hs0⟩:∃s0,s0=if mid<m then n0-b else a:=⟨_,rfl⟩
 obtain⟨r0,hr0⟩:∃r0,r0=if mid<m then mid else m:=⟨_,rfl⟩
 obtain⟨a1,a2,a3,a4,a5,a6⟩:=mQ (by omega) (by omega) hq hmid hn0 hs0 hr0 hX0 hY0 h1
 have w7:mid<m→IntKind.i64.wrap ((n0:Int)-(b:Int))=(s0:Int):=fun h=>by have:=a6 h;rw[if_pos h]at hs0;rw[wrap64_in _ (by omega) (by omega)];omega
 simp -implicitDefEqProofs only[↓reduceIte,go_sem,Nat.reduceLT,Nat.reduceEqDiff,Int.reduceLE,w1,w2,show(((X.length:Nat):Int)=1)=False from eq_false (by omega),show(((Y.length:Nat):Int)=1)=False from eq_false (by omega),w3,w4,w5]
 refine eK (fun s H'=>H'=E0∧s 0= .sl id ver 0 n∧s 1=iA a∧s 2=iA m∧s 3=iA b∧s 4= .fn g caps∧s 18=iA mid∧s 19=iA n0∧s 20=iA s0∧s 21=iA r0) rfl ?_ ?_
 ·by_cases hmm:mid<m
  ·simp -implicitDefEqProofs only[↓reduceIte,go_sem,Nat.reduceLT,Nat.reduceEqDiff,reduceCtorEq,eq_true hmm,w7 hmm]
   rw[hr0,if_pos hmm]
  ·simp -implicitDefEqProofs only[↓reduceIte,go_sem,Nat.reduceLT,Nat.reduceEqDiff,reduceCtorEq,eq_false hmm]
   rw[hs0,hr0,if_neg hmm,if_neg hmm]
   exact⟨rfl,rfl⟩
 ·clear hs0 hr0 w3 w4 w5 w7 a6 hmid
  rintro s H' ⟨rfl,t0,t1,t2,t3,t4,t18,t19,t20,t21⟩
  simp -implicitDefEqProofs only[↓reduceIte,go_sem,Nat.reduceLT,t19,w6]
  refine gp (fun s H1=>H1=H'∧(∃st,s0≤st∧st≤r0∧Hid (st=s0∨∃x y,X[st-1-a]?=some x∧Y[n0-st-m]?=some y∧aV c y x=false)∧Hid (st=r0∨∃x y,X[st-a]?=some x∧Y[p-st-m]?=some y∧aV c y x=true)∧s 20=iA st)∧
   s 0= .sl id ver 0 n∧s 1=iA a∧s 2=iA m∧s 3=iA b∧s 4= .fn g caps∧s 18=iA mid∧s 19=iA n0) rfl ?_ ?_
  ·refine bu _ _ _ _ (fun(z:Nat×Nat) s H1=>H1=H'∧s0≤z.1∧z.1≤z.2∧z.2≤r0∧Hid (z.1=s0∨∃x y,X[z.1-1-a]?=some x∧Y[n0-z.1-m]?=some y∧aV c y x=false)∧Hid (z.2=r0∨∃x y,X[z.2-a]?=some x∧Y[p-z.2-m]?=some y∧aV c y x=true)∧
    s 0= .sl id ver 0 n∧s 1=iA a∧s 2=iA m∧s 3=iA b∧s 4= .fn g caps∧s 18=iA mid∧s 19=iA n0∧s 20=iA z.1∧s 21=iA z.2∧s 22=iA p) (fun z=>z.2-z.1) (s0,r0) (ak.refl _ _) ?_ ?_
   ·refine⟨rfl,Nat.le_refl _,a1.1,Nat.le_refl _,.inl rfl,.inl rfl,?_⟩
    simp -implicitDefEqProofs only[↓reduceIte,go_sem,Nat.reduceLT,Nat.reduceEqDiff,reduceCtorEq,t0,t1,t2,t3,t4,t18,t19,t20,t21]
   ·rintro⟨i,j⟩ s H1 ⟨rfl,hi0,hij,hj0,hlo,hhi,t0,t1,t2,t3,t4,t18,t19,t20,t21,t22⟩
    simp only at hi0 hij hj0 hlo hhi t20 t21
    by_cases hlt:i<j
    ·obtain⟨qq,hqq⟩:∃qq,qq=i+j:=⟨_,rfl⟩
     have v3:IntKind.i64.wrap ((i:Int)+(j:Int))=(qq:Int):=by rw[wrap64_in _ (by omega) (by omega)];omega
     have v4:=fC qq (by omega)
     obtain⟨h,hh⟩:∃h,h=qq/2:=⟨_,rfl⟩
     rw[←hh]at v4
     have hpc:m≤p-h∧p-h<b∧h<m∧a≤h:=by omega
     obtain⟨pc,hpc2⟩:∃pc,pc=p-h:=⟨_,rfl⟩
     have v5:IntKind.i64.wrap ((p:Int)-(h:Int))=(pc:Int):=by rw[wrap64_in _ (by omega) (by omega)];omega
     obtain⟨x,hx⟩:∃x,X[h-a]?=some x:=⟨_,List.getElem?_eq_getElem (show h-a<X.length by omega)⟩
     obtain⟨y,hy⟩:∃y,Y[pc-m]?=some y:=⟨_,List.getElem?_eq_getElem (show pc-m<Y.length by omega)⟩
     have gx:=aG (hLX _ _ hx)
     rw[show a+(h-a)=h by omega]at gx
     have gy:=aG (hLY _ _ hy)
     rw[show m+(pc-m)=pc by omega]at gy
     have hd:=hcE y x
     simp only[al.enc]at gx gy
     try simp only[al.enc,List.map_cons,List.map_nil]at hd
     have hln:h<n:=by omega
     have hpn:pc<n:=by omega
     simp -implicitDefEqProofs only[↓reduceIte,go_sem,Nat.reduceLT,Nat.reduceEqDiff,Int.reduceLE,t20,t21,eq_true hlt,v3,v4]
     refine aF K.mixed (by kernel_rfl) ?_
     simp -implicitDefEqProofs only[↓reduceIte,go_sem,ab,Nat.reduceAdd,Nat.reduceLT,Nat.reduceEqDiff,reduceCtorEq,t0,t4,t22,gh,gx,gy,hln,hpn,v5]
     refine ae.ok hd ?_
     by_cases hcc:c y x<0
     ·simp -implicitDefEqProofs only[↓reduceIte,go_sem,Nat.reduceLT,Nat.reduceEqDiff,hcc]
      refine⟨_,_,(i,h),ak.refl _ _,⟨rfl,hi0,by simp only;omega,by simp only;omega,hlo,.inr ⟨x,y,hx,by rw[←hpc2];exact hy,by simp[aV,hcc]⟩,?_⟩,by simp only;omega⟩
      simp -implicitDefEqProofs only[↓reduceIte,go_sem,Nat.reduceLT,Nat.reduceEqDiff,reduceCtorEq,t0,t1,t2,t3,t4,t18,t19,t20,t22]
     ·have v6:IntKind.i64.wrap ((h:Int)+1)=(h:Int)+1:=wrap64_in _ (by omega) (by omega)
      simp -implicitDefEqProofs only[↓reduceIte,go_sem,Nat.reduceLT,Nat.reduceEqDiff,hcc,v6]
      refine⟨_,_,(h+1,j),ak.refl _ _,⟨rfl,by simp only;omega,by simp only;omega,hj0,.inr ⟨x,y,by simpa using hx,by rw[show n0-(h+1)-m=pc-m by omega];exact hy,by simp[aV,hcc]⟩,hhi,?_⟩,by simp only;omega⟩
      simp -implicitDefEqProofs only[↓reduceIte,go_sem,Nat.reduceLT,Nat.reduceEqDiff,reduceCtorEq,t0,t1,t2,t3,t4,t18,t19,t21,t22]
    ·obtain rfl:j=i:=by omega
     simp -implicitDefEqProofs only[↓reduceIte,go_sem,Nat.reduceLT,Nat.reduceEqDiff,reduceCtorEq,t20,t21,Nat.lt_irrefl]
     exact⟨⟨j,hi0,hj0,hlo,hhi,rfl⟩,t0,t1,t2,t3,t4,t18,t19⟩
  ·rintro s H1 ⟨rfl,⟨st,hst0,hst1,hlo,hhi,t20⟩,t0,t1,t2,t3,t4,t18,t19⟩
   clear w6
   obtain⟨e,he⟩:∃e,e=n0-st:=⟨_,rfl⟩
   obtain⟨sX,hsX⟩:∃sX,sX=st-a:=⟨_,rfl⟩
   obtain⟨eY,heY⟩:∃eY,eY=e-m:=⟨_,rfl⟩
   have w8:IntKind.i64.wrap ((n0:Int)-(st:Int))=(e:Int):=by rw[wrap64_in _ (by omega) (by omega)];omega
   have b1:sX≤X.length∧eY≤Y.length∧m≤e∧e≤b∧mid=st+eY∧e=mid+(m-st):=by omega
   have hcut:=St.nc ho hX hY (s:=sX) (e:=eY) b1.1 b1.2.1 ?_ ?_
   rotate_left
   ·rcases hhi with h|⟨x,y,hx,hy,h⟩
    ·rcases a3 with h3|h3
     ·exact .inl (by omega)
     ·exact .inr (.inl (by omega))
    ·exact .inr (.inr ⟨x,y,by rw[hsX];exact hx,by rw[show eY-1=p-st-m by omega];exact hy,h⟩)
   ·rcases hlo with h|⟨x,y,hx,hy,h⟩
    ·rcases a4 with h4|h4
     ·exact .inl (by omega)
     ·exact .inr (.inl (by omega))
    ·exact .inr (.inr ⟨x,y,by rw[show sX-1=st-1-a by omega];exact hx,by rw[show eY=n0-st-m by omega];exact hy,h⟩)
   have hXs:=hX
   have hYs:=hY
   have eX:X.take sX++X.drop sX=X:=List.take_append_drop _ _
   have eY':Y.take eY++Y.drop eY=Y:=List.take_append_drop _ _
   have lA:(X.take sX).length=sX:=by rw[List.length_take];omega
   have lU:(X.drop sX).length=X.length-sX:=List.length_drop
   have lV:(Y.take eY).length=eY:=by rw[List.length_take];omega
   have lB:(Y.drop eY).length=Y.length-eY:=List.length_drop
   rw[←eX]at hXs
   rw[←eY']at hYs
   have sA:=hXs.left
   have sU:=hXs.right
   have sV:=hYs.left
   have sB:=hYs.right
   clear hXs hYs hlo hhi a3 a4
   generalize hA:X.take sX=A at*
   generalize hU:X.drop sX=U at*
   generalize hV:Y.take eY=V at*
   generalize hB:Y.drop eY=B at*
   have hLL:L=P++A++U++V++(B++Q):=by rw[hL,←eX,←eY'];simp
   obtain⟨L1,hL1⟩:∃L1,L1=P++A++V++U++(B++Q):=⟨_,rfl⟩
   obtain⟨L2,hL2⟩:∃L2,L2=P++St.aJ (aV c) (A++V)++U++B++Q:=⟨_,rfl⟩
   have hL3:L'=P++St.aJ (aV c) (A++V)++St.aJ (aV c) (U++B)++Q:=by rw[hL',←hcut];simp
   have n1:L1.length=n:=by rw[←hn,hLL,hL1];simp;omega
   have n2:L2.length=n:=by rw[←hn,hLL,hL2];simp[St.aW];omega
   rw[dS]
   refine gw (fun s H2=>H2=aH H id ver L∧s 0= .sl id ver 0 n∧s 1=iA a∧s 2=iA m∧s 3=iA b∧s 4= .fn g caps∧s 18=iA mid∧s 20=iA st∧s 24=iA e) rfl (by simp -implicitDefEqProofs only[↓reduceIte,go_sem,Nat.reduceLT,Nat.reduceEqDiff,reduceCtorEq,t0,t1,t2,t3,t4,t18,t19,t20,w8,hE0]) ?_
   rintro s H2 ⟨rfl,t0,t1,t2,t3,t4,t18,t20,t24⟩
   rw[dS]
   refine gw (fun s H2=>H2=aH H id ver L1∧s 0= .sl id ver 0 n∧s 1=iA a∧s 2=iA m∧s 3=iA b∧s 4= .fn g caps∧s 18=iA mid∧s 20=iA st∧s 24=iA e) rfl ?_ ?_
   ·have same:U=[]∨V=[]→aH H id ver L=aH H id ver L1:=fun h=>by
     rw[hL1,hLL];rcases h with rfl|rfl<;>simp
    by_cases c1:st<m
    ·by_cases c2:m<e
     ·simp -implicitDefEqProofs only[↓reduceIte,go_sem,Nat.reduceLT,Nat.reduceEqDiff,reduceCtorEq,t2,t20,t24,eq_true c1,eq_true c2]
      simp -implicitDefEqProofs only[go_sem,t0,t4]
      refine ae.ok (j8 H id ver hid g caps (P++A) U V (B++Q) L L1 hLL (by rw[hL1]) st m e n (by simp;omega) (by simp;omega) (by simp;omega) (by omega) (by omega) hn hbig) ?_
      simp -implicitDefEqProofs only[↓reduceIte,go_sem,Nat.reduceEqDiff,reduceCtorEq,t0,t1,t2,t3,t4,t18,t20,t24]
     ·simp -implicitDefEqProofs only[↓reduceIte,go_sem,Nat.reduceLT,Nat.reduceEqDiff,reduceCtorEq,t2,t20,t24,eq_true c1,eq_false c2]
      simp -implicitDefEqProofs only[go_sem,t0,t1,t3,t4,t18]
      exact same (.inr (List.eq_nil_of_length_eq_zero (by omega)))
    ·simp -implicitDefEqProofs only[↓reduceIte,go_sem,Nat.reduceLT,Nat.reduceEqDiff,reduceCtorEq,t2,t20,t24,eq_false c1]
     simp -implicitDefEqProofs only[go_sem,t0,t1,t3,t4,t18]
     exact same (.inl (List.eq_nil_of_length_eq_zero (by omega)))
   rintro s H2 ⟨rfl,t0,t1,t2,t3,t4,t18,t20,t24⟩
   rw[dS]
   refine gw (fun s H2=>H2=aH H id ver L2∧s 0= .sl id ver 0 n∧s 3=iA b∧s 4= .fn g caps∧s 18=iA mid∧s 24=iA e) rfl ?_ ?_
   ·have same:A=[]∨V=[]→aH H id ver L1=aH H id ver L2:=fun h=>by
     have:St.aJ (aV c) (A++V)=A++V:=by
      rcases h with rfl|rfl
      ·simpa using St.cI ho sV
      ·simpa using St.cI ho sA
     rw[hL1,hL2,this];simp
    by_cases c1:a<st
    ·by_cases c2:st<mid
     ·simp -implicitDefEqProofs only[↓reduceIte,go_sem,Nat.reduceLT,Nat.reduceEqDiff,reduceCtorEq,t1,t18,t20,eq_true c1,eq_true c2]
      simp -implicitDefEqProofs only[go_sem,t0,t4]
      refine ae.ok (ih P A V (U++(B++Q)) L1 L2 a st mid (by omega) (by rw[hL1];simp) (by rw[hL2];simp) ha (by omega) (by omega) (by omega) (by omega) sA sV n1) ?_
      simp -implicitDefEqProofs only[↓reduceIte,go_sem,Nat.reduceEqDiff,reduceCtorEq,t0,t3,t4,t18,t24]
     ·simp -implicitDefEqProofs only[↓reduceIte,go_sem,Nat.reduceLT,Nat.reduceEqDiff,reduceCtorEq,t1,t18,t20,eq_true c1,eq_false c2]
      simp -implicitDefEqProofs only[go_sem,t0,t3,t4,t24]
      exact same (.inr (List.eq_nil_of_length_eq_zero (by omega)))
    ·simp -implicitDefEqProofs only[↓reduceIte,go_sem,Nat.reduceLT,Nat.reduceEqDiff,reduceCtorEq,t1,t18,t20,eq_false c1]
     simp -implicitDefEqProofs only[go_sem,t0,t3,t4,t24]
     exact same (.inl (List.eq_nil_of_length_eq_zero (by omega)))
   rintro s H2 ⟨rfl,t0,t3,t4,t18,t24⟩
   have same:U=[]∨B=[]→aH H id ver L2=aH H id ver L':=fun h=>by
    have:St.aJ (aV c) (U++B)=U++B:=by
     rcases h with rfl|rfl
     ·simpa using St.cI ho sB
     ·simpa using St.cI ho sU
    rw[hL2,hL3,this];simp
   by_cases c1:mid<e
   ·by_cases c2:e<b
    ·simp -implicitDefEqProofs only[↓reduceIte,go_sem,Nat.reduceLT,Nat.reduceEqDiff,reduceCtorEq,t3,t18,t24,eq_true c1,eq_true c2]
     simp -implicitDefEqProofs only[go_sem,t0,t4]
     have lS:=St.aW (lt:=aV c) (A++V)
     rw[List.length_append]at lS
     refine ae.ok (ih (P++St.aJ (aV c) (A++V)) U B Q L2 L' mid e b (by omega) (by rw[hL2]) (by rw[hL3]) (by simp;omega) (by simp;omega) (by simp;omega) (by omega) (by omega) sU sB n2) ?_
     simp -implicitDefEqProofs only[go_sem]
     exact⟨_,ak.refl _ _,rfl⟩
    ·simp -implicitDefEqProofs only[↓reduceIte,go_sem,Nat.reduceLT,Nat.reduceEqDiff,t3,t18,t24,eq_true c1,eq_false c2]
     rw[same (.inr (List.eq_nil_of_length_eq_zero (by omega)))]
     exact⟨_,ak.refl _ _,rfl⟩
   ·simp -implicitDefEqProofs only[↓reduceIte,go_sem,Nat.reduceLT,Nat.reduceEqDiff,reduceCtorEq,t18,t24,eq_false c1]
    rw[same (.inl (List.eq_nil_of_length_eq_zero (by omega)))]
    exact⟨_,ak.refl _ _,rfl⟩
end SV
end Go.Proofs.YtggohfhfocgilaaGreat
namespace Go.Proofs.YtggohfhfocgilaaGreat
open Go.Proofs.YtggohfhfocgilaaGreatAw Go.RowKit
namespace SV
theorem dQ(H:aa)(id ver:Nat)(hid:id<H.length)(g:FuncId)(caps:List AV)(c:al→al→Int)(ho:St.Ord (aV c))(hc:ek g caps c H id)(n:Nat)(hbig:n≤1000000000000):∀(N:Nat) (P X Y Q L L':List al) (a m b:Nat),X.length+Y.length≤N→
  L=P++X++Y++Q→L'=P++St.aJ (aV c) (X++Y)++Q→P.length=a→P.length+X.length=m→P.length+X.length+Y.length=b→0<X.length→0<Y.length→St.aw (aV c) X→St.aw (aV c) Y→L.length=n→
  ag Tryz.prog 268 [.sl id ver 0 n,iA a,iA m,iA b,.fn g caps] (aH H id ver L) (.ok (.a7 [])) (aH H id ver L'):=by
 intro N
 induction N with
 |zero=>intros;omega
 |succ N ih=>
  intro P X Y Q L L' a m b hN hL hL' ha hm hb hX0 hY0 hX hY hn
  by_cases h1:X.length=1
  ·exact mS H id ver hid g caps c ho hc n hbig P X Y Q L L' a m b hL hL' ha hm hb hX0 hY0 hX hY hn h1
  ·by_cases h2:Y.length=1
   ·exact mX H id ver hid g caps c ho hc n hbig P X Y Q L L' a m b hL hL' ha hm hb hX0 hY0 hX hY hn h1 h2
   ·exact na H id ver hid g caps c ho hc n hbig P X Y Q L L' a m b hL hL' ha hm hb hX0 hY0 hX hY hn h1 h2 fun P' X' Y' Q' L1 L2 a' m' b' hlt=>ih P' X' Y' Q' L1 L2 a' m' b' (by omega)
theorem j4(H:aa)(id ver:Nat)(hid:id<H.length)(g:FuncId)(caps:List AV)(c:al→al→Int)(ho:St.Ord (aV c))(hc:ek g caps c H id)(n:Nat)(hbig:n≤100000000000)(L:List al)(hn:L.length=n):
  ag Tryz.prog 265 [.sl id ver 0 n,iA n,.fn g caps] (aH H id ver L) (.ok (.a7 [])) (aH H id ver (St.aJ (aV c) L)):=by
 generalize hE0:aH H id ver L=E0
 generalize hE1:aH H id ver (St.aJ (aV c) L)=E1
 refine ag.ai (hint:=(fun _=>false)) Tryz.func265 (by kernel_rfl) rfl [] (by kernel_rfl) (by decide) (by simp[Tryz.ntmps265]) ?_
 rw[Tryz.ntmps265]
 simp -implicitDefEqProofs only[↓reduceIte,go_sem,Nat.reduceLT,Nat.reduceEqDiff]
 refine gp (fun s H'=>(∃Lk,H'=aH H id ver Lk∧St.bG (aV c) Lk L∧Lk.length=n∧(∃k,k* 20≤n∧n<(k+1)* 20∧(∀j,j<k→St.aw (aV c) (St.e9 20 j Lk))∧s 7=iA ((k* 20:Nat):Int)))∧s 0= .sl id ver 0 n∧s 1=iA n∧s 2= .fn g caps∧s 6=iA 20) rfl ?_ ?_
 ·refine bu _ _ _ _ (fun(k:Nat) s H'=>k* 20≤n∧(∃Lk,H'=aH H id ver Lk∧St.bG (aV c) Lk L∧Lk.length=n∧∀j,j<k→St.aw (aV c) (St.e9 20 j Lk))∧s 0= .sl id ver 0 n∧s 1=iA n∧s 2= .fn g caps∧s 6=iA 20∧s 7=iA ((k* 20:Nat):Int)∧s 8=iA (((k+1)* 20:Nat):Int)) (fun k=>n-k) 0 (ak.refl _ _) ?_ ?_
  ·refine⟨by omega,⟨L,hE0.symm,.refl _,hn,fun j hj=>by omega⟩,?_⟩
   simp -implicitDefEqProofs only[↓reduceIte,go_sem,Nat.reduceLT,Nat.reduceEqDiff,reduceCtorEq]
  ·rintro k s H' ⟨hk,⟨Lk,rfl,hst,hlen,hso⟩,t0,t1,t2,t6,t7,t8⟩
   obtain⟨a,ha⟩:∃a,a=k* 20:=⟨_,rfl⟩
   obtain⟨b,hb⟩:∃b,b=(k+1)* 20:=⟨_,rfl⟩
   rw[←ha]at t7
   rw[←hb]at t8
   by_cases hbn:b≤n
   ·obtain⟨P,hP⟩:∃P,P=Lk.take a:=⟨_,rfl⟩
    obtain⟨X,hX⟩:∃X,X=(Lk.drop a).take 20:=⟨_,rfl⟩
    obtain⟨Q,hQ⟩:∃Q,Q=Lk.drop (a+20):=⟨_,rfl⟩
    have hc3:Lk=P++X++Q:=by rw[hP,hX,hQ,St.Gd]
    have lP:P.length=a:=by rw[hP,List.length_take];omega
    have lX:X.length=20:=by rw[hX,List.length_take,List.length_drop];omega
    obtain⟨L1,hL1⟩:∃L1,L1=P++St.aJ (aV c) X++Q:=⟨_,rfl⟩
    have lL1:L1.length=n:=by rw[hL1,←hlen,hc3];simp[St.aW]
    have hso1:∀j,j<k+1→St.aw (aV c) (St.e9 20 j L1):=by
     rw[hL1];exact St.fl ho (by omega) (by rw[←hc3];exact hso) (.inl lX)
    have hst1:St.bG (aV c) L1 L:=by
     refine St.bG.trans ?_ hst
     rw[hL1,hc3];exact St.ef ho P X Q
    have w1:IntKind.i64.wrap ((b:Int)+20)=(((k+1+1)* 20:Nat):Int):=by rw[wrap64_in _ (by omega) (by omega)];omega
    obtain⟨b2,hb2⟩:∃b2,b2=(k+1+1)* 20:=⟨_,rfl⟩
    rw[←hb2]at w1
    simp -implicitDefEqProofs only[↓reduceIte,go_sem,Nat.reduceLT,Nat.reduceEqDiff,reduceCtorEq,t1,t8,eq_true hbn]
    simp -implicitDefEqProofs only[go_sem,t0,t2,t7]
    refine ae.ok (eu H id ver hid g caps c ho hc P X Q Lk L1 hc3 hL1 a b n lP (by omega) hlen (by omega)) ?_
    simp -implicitDefEqProofs only[↓reduceIte,go_sem,Nat.reduceLT,Nat.reduceEqDiff,t6,t8,w1]
    refine⟨_,_,k+1,ak.refl _ _,⟨by omega,⟨L1,rfl,hst1,lL1,hso1⟩,?_⟩,by omega⟩
    rw[←hb,←hb2]
    simp -implicitDefEqProofs only[↓reduceIte,go_sem,Nat.reduceLT,Nat.reduceEqDiff,reduceCtorEq,t0,t1,t2,t6]
   ·simp -implicitDefEqProofs only[↓reduceIte,go_sem,Nat.reduceLT,Nat.reduceEqDiff,reduceCtorEq,t1,t8,eq_false hbn]
    refine⟨⟨Lk,rfl,hst,hlen,k,by omega,by omega,hso,?_⟩,?_⟩
    ·rw[←ha];simp -implicitDefEqProofs only[go_sem,t7]
    ·simp -implicitDefEqProofs only[go_sem,t0,t2,t6]
 rintro s H' ⟨⟨Lk,rfl,hst,hlen,k,hk1,hk2,hso,t7⟩,t0,t1,t2,t6⟩
 obtain⟨a,ha⟩:∃a,a=k* 20:=⟨_,rfl⟩
 rw[←ha]at t7
 have hc3:Lk=Lk.take a++Lk.drop a++[]:=by simp
 obtain⟨L1,hL1⟩:∃L1,L1=Lk.take a++St.aJ (aV c) (Lk.drop a)++[]:=⟨_,rfl⟩
 have lP:(Lk.take a).length=a:=by rw[List.length_take];omega
 have lX:(Lk.drop a).length=n-a:=by rw[List.length_drop];omega
 have lL1:L1.length=n:=by rw[hL1];simp only[List.length_append,St.aW,lP,lX,List.length_nil];omega
 have hst1:St.bG (aV c) L1 L:=by
  refine St.bG.trans ?_ hst
  rw[hL1]
  have:=St.ef ho (Lk.take a) (Lk.drop a) []
  rwa[←hc3]at this
 have hb1:∀j,St.aw (aV c) (St.e9 20 j L1):=by
  intro j
  rcases Nat.lt_or_ge j (k+1)with h|h
  ·rw[hL1]
   exact St.fl ho (by omega) (by rw[←hc3];exact hso) (.inr ⟨by omega,rfl⟩) j h
  ·have:=Nat.mul_le_mul_right 20 h
   rw[St.oh (by omega)]
   exact List.Pairwise.nil
 simp -implicitDefEqProofs only[↓reduceIte,go_sem,Nat.reduceLT,Nat.reduceEqDiff,t0,t1,t2,t7]
 refine ae.ok (eu H id ver hid g caps c ho hc _ _ _ Lk L1 hc3 hL1 a n n lP (by omega) hlen (by omega)) ?_
 clear hc3 hL1 lP lX hst hso hlen
 simp -implicitDefEqProofs only[go_sem]
 refine bu _ _ _ _ (fun(z:Nat) s H'=>20≤z∧z≤2* n+20∧(∃Lk,H'=aH H id ver Lk∧St.bG (aV c) Lk L∧Lk.length=n∧∀j,St.aw (aV c) (St.e9 z j Lk))∧s 0= .sl id ver 0 n∧s 1=iA n∧s 2= .fn g caps∧s 6=iA z) (fun z=>n-z) 20 (ak.refl _ _) ?_ ?_
 ·refine⟨Nat.le_refl _,by omega,⟨L1,rfl,hst1,lL1,hb1⟩,?_⟩
  simp -implicitDefEqProofs only[↓reduceIte,go_sem,Nat.reduceEqDiff,reduceCtorEq,t0,t1,t2,t6]
 clear hb1 hst1 lL1 t0 t1 t2 t6 t7 hk1 hk2 ha
 rintro z s H' ⟨hz1,hz2,⟨Lk,rfl,hst,hlen,hbl⟩,t0,t1,t2,t6⟩
 by_cases hzn:z<n
 ·have w1:IntKind.i64.wrap (2* (z:Int))=((2* z:Nat):Int):=by rw[wrap64_in _ (by omega) (by omega)];omega
  have w1':IntKind.i64.wrap ((z:Int)* 2)=((2* z:Nat):Int):=by rw[wrap64_in _ (by omega) (by omega)];omega
  obtain⟨y,hy⟩:∃y,y=2* z:=⟨_,rfl⟩
  rw[←hy]at w1 w1'
  simp -implicitDefEqProofs only[↓reduceIte,go_sem,Nat.reduceLT,Nat.reduceEqDiff,t1,t6,eq_true hzn,w1]
  refine gp (fun s H'=>(∃Lk,H'=aH H id ver Lk∧St.bG (aV c) Lk L∧Lk.length=n∧∃k a,a=k* y∧a=2* k* z∧a≤n∧n<a+y∧(∀j,j<k→St.aw (aV c) (St.e9 y j Lk))∧(∀j,2* k≤j→St.aw (aV c) (St.e9 z j Lk))∧s 7=iA a)∧s 0= .sl id ver 0 n∧s 1=iA n∧s 2= .fn g caps∧s 6=iA z) rfl ?_ ?_
  ·refine bu _ _ _ _ (fun(k:Nat) s H'=>(∃a,a=k* y∧a=2* k* z∧a≤n∧s 7=iA a∧s 8=iA ((a+y:Nat):Int))∧(∃Lk,H'=aH H id ver Lk∧St.bG (aV c) Lk L∧Lk.length=n∧(∀j,j<k→St.aw (aV c) (St.e9 y j Lk))∧(∀j,2* k≤j→St.aw (aV c) (St.e9 z j Lk)))∧s 0= .sl id ver 0 n∧s 1=iA n∧s 2= .fn g caps∧s 6=iA z) (fun k=>n+1-k* y) 0 (ak.refl _ _) ?_ ?_
   ·refine⟨⟨0,by omega,by omega,by omega,?_⟩,⟨Lk,rfl,hst,hlen,fun j hj=>by omega,fun j _=>hbl j⟩,?_⟩
    ·simp -implicitDefEqProofs only[↓reduceIte,go_sem,Nat.reduceLT,Nat.reduceEqDiff,Nat.zero_add]
    ·simp -implicitDefEqProofs only[↓reduceIte,go_sem,Nat.reduceEqDiff,reduceCtorEq,t0,t1,t2,t6]
   clear hst hlen hbl Lk t0 t1 t2 t6
   rintro k s H' ⟨⟨a,ha,ha2,han,t7,t8⟩,⟨Lk,rfl,hst,hlen,hso,hso2⟩,t0,t1,t2,t6⟩
   obtain⟨b,hb⟩:∃b,b=a+y:=⟨_,rfl⟩
   rw[←hb]at t8
   have hk1:(k+1)* y=a+y:=by rw[Nat.add_mul,←ha,Nat.one_mul]
   have hk2:2* (k+1)* z=a+2* z:=by rw[Nat.mul_add,Nat.add_mul,←ha2]
   have hk3:(2* k+1)* z=a+z:=by rw[Nat.add_mul,←ha2,Nat.one_mul]
   by_cases hbn:b≤n
   ·obtain⟨P,hP⟩:∃P,P=Lk.take a:=⟨_,rfl⟩
    obtain⟨X,hX⟩:∃X,X=(Lk.drop a).take z:=⟨_,rfl⟩
    obtain⟨Y,hY⟩:∃Y,Y=(Lk.drop (a+z)).take z:=⟨_,rfl⟩
    obtain⟨Q,hQ⟩:∃Q,Q=Lk.drop (a+z+z):=⟨_,rfl⟩
    have hc4:Lk=P++X++Y++Q:=by rw[hP,hX,hY,hQ,St.D5]
    have hc5:Lk=P++(X++Y)++Q:=by rw[hc4];simp
    have lP:P.length=a:=by rw[hP,List.length_take];omega
    have lX:X.length=z:=by rw[hX,List.length_take,List.length_drop];omega
    have lY:Y.length=z:=by rw[hY,List.length_take,List.length_drop];omega
    have lXY:(X++Y).length=y:=by rw[List.length_append];omega
    have sX:St.aw (aV c) X:=by have:=hso2 (2* k) (Nat.le_refl _);rw[St.e9,←ha2,←hX]at this;exact this
    have sY:St.aw (aV c) Y:=by have:=hso2 (2* k+1) (by omega);rw[St.e9,hk3,←hY]at this;exact this
    obtain⟨L1,hL1⟩:∃L1,L1=P++St.aJ (aV c) (X++Y)++Q:=⟨_,rfl⟩
    have lL1:L1.length=n:=by rw[hL1,←hlen,hc5];simp[St.aW];try omega
    have hst1:St.bG (aV c) L1 L:=by
     refine St.bG.trans ?_ hst
     rw[hL1,hc5];exact St.ef ho P (X++Y) Q
    have hso1:∀j,j<k+1→St.aw (aV c) (St.e9 y j L1):=by
     rw[hL1];exact St.fl ho (by omega) (by rw[←hc5];exact hso) (.inl lXY)
    have hso3:∀j,2* (k+1)≤j→St.aw (aV c) (St.e9 z j L1):=fun j hj=>by
     have h1:=Nat.mul_le_mul_right z hj
     rw[hL1,St.ow (X':=X++Y) (St.aW _) (by rw[St.aW,lXY,lP];omega),←hc5]
     exact hso2 j (by omega)
    clear hP hX hY hQ hst hso hso2
    obtain⟨m,hm⟩:∃m,m=a+z:=⟨_,rfl⟩
    obtain⟨b2,hb2⟩:∃b2,b2=b+y:=⟨_,rfl⟩
    have w2:IntKind.i64.wrap ((a:Int)+(z:Int))=(m:Int):=by rw[wrap64_in _ (by omega) (by omega)];omega
    have w3:IntKind.i64.wrap ((b:Int)+(y:Int))=(b2:Int):=by rw[wrap64_in _ (by omega) (by omega)];omega
    simp -implicitDefEqProofs only[↓reduceIte,go_sem,Nat.reduceLT,Nat.reduceEqDiff,reduceCtorEq,t1,t8,eq_true hbn]
    simp -implicitDefEqProofs only[↓reduceIte,go_sem,Nat.reduceLT,Nat.reduceEqDiff,t0,t2,t6,t7,t8,w2]
    refine ae.ok (dQ H id ver hid g caps c ho hc n (by omega) _ P X Y Q Lk L1 a m b (Nat.le_refl _) hc4 hL1 lP (by omega) (by omega) (by omega) (by omega) sX sY hlen) ?_
    simp -implicitDefEqProofs only[↓reduceIte,go_sem,Nat.reduceLT,Nat.reduceEqDiff,t6,t8,w1,w3]
    refine⟨_,_,k+1,ak.refl _ _,⟨⟨b,by omega,by omega,hbn,?_⟩,⟨L1,rfl,hst1,lL1,hso1,hso3⟩,?_⟩,by omega⟩
    ·simp -implicitDefEqProofs only[↓reduceIte,go_sem,Nat.reduceLT,Nat.reduceEqDiff,show((b:Int)+(y:Int))=(b2:Int) by omega]
    ·simp -implicitDefEqProofs only[↓reduceIte,go_sem,Nat.reduceEqDiff,reduceCtorEq,t0,t1,t2,t6]
   ·simp -implicitDefEqProofs only[↓reduceIte,go_sem,Nat.reduceLT,Nat.reduceEqDiff,reduceCtorEq,t1,t8,eq_false hbn]
    refine⟨⟨Lk,rfl,hst,hlen,k,a,ha,ha2,han,by omega,hso,hso2,?_⟩,?_⟩
    ·simp -implicitDefEqProofs only[go_sem,t7]
    ·simp -implicitDefEqProofs only[go_sem,t0,t2,t6]
  clear hst hlen hbl Lk t0 t1 t2 t6
  rintro s H' ⟨⟨Lk,rfl,hst,hlen,k,a,ha,ha2,han,hna,hso,hso2,t7⟩,t0,t1,t2,t6⟩
  have hk3:(2* k+1)* z=a+z:=by rw[Nat.add_mul,←ha2,Nat.one_mul]
  have hk1:(k+1)* y=a+y:=by rw[Nat.add_mul,←ha,Nat.one_mul]
  obtain⟨m,hm⟩:∃m,m=a+z:=⟨_,rfl⟩
  have w2:IntKind.i64.wrap ((a:Int)+(z:Int))=(m:Int):=by rw[wrap64_in _ (by omega) (by omega)];omega
  have all:∀L1:List al,L1.length=n→(∀j,j<k+1→St.aw (aV c) (St.e9 y j L1))→∀j,St.aw (aV c) (St.e9 y j L1):=fun L1 hl h j=>by
   rcases Nat.lt_or_ge j (k+1)with h1|h1
   ·exact h j h1
   ·have:=Nat.mul_le_mul_right y h1
    rw[St.oh (by omega)]
    exact List.Pairwise.nil
  by_cases hmn:m<n
  ·obtain⟨P,hP⟩:∃P,P=Lk.take a:=⟨_,rfl⟩
   obtain⟨X,hX⟩:∃X,X=(Lk.drop a).take z:=⟨_,rfl⟩
   obtain⟨Y,hY⟩:∃Y,Y=(Lk.drop (a+z)).take z:=⟨_,rfl⟩
   have hQ:Lk.drop (a+z+z)=[]:=List.drop_of_length_le (by omega)
   have hc4:Lk=P++X++Y++[]:=by rw[hP,hX,hY,←hQ,St.D5]
   have hc5:Lk=P++(X++Y)++[]:=by rw[hc4];simp
   have lP:P.length=a:=by rw[hP,List.length_take];omega
   have lX:X.length=z:=by rw[hX,List.length_take,List.length_drop];omega
   have lY:Y.length=n-m:=by rw[hY,List.length_take,List.length_drop];omega
   have lXY:(X++Y).length≤y:=by rw[List.length_append];omega
   have sX:St.aw (aV c) X:=by have:=hso2 (2* k) (Nat.le_refl _);rw[St.e9,←ha2,←hX]at this;exact this
   have sY:St.aw (aV c) Y:=by have:=hso2 (2* k+1) (by omega);rw[St.e9,hk3,←hY]at this;exact this
   obtain⟨L1,hL1⟩:∃L1,L1=P++St.aJ (aV c) (X++Y)++[]:=⟨_,rfl⟩
   have lL1:L1.length=n:=by rw[hL1,←hlen,hc5];simp[St.aW];try omega
   have hst1:St.bG (aV c) L1 L:=by
    refine St.bG.trans ?_ hst
    rw[hL1]
    have:=St.ef ho P (X++Y) []
    rwa[←hc5]at this
   have hso1:∀j,j<k+1→St.aw (aV c) (St.e9 y j L1):=by
    rw[hL1];exact St.fl ho (by omega) (by rw[←hc5];exact hso) (.inr ⟨lXY,rfl⟩)
   clear hP hX hY hQ hst hso hso2
   simp -implicitDefEqProofs only[↓reduceIte,go_sem,Nat.reduceLT,Nat.reduceEqDiff,reduceCtorEq,t1,t6,t7,w2,eq_true hmn]
   simp -implicitDefEqProofs only[go_sem,t0,t2]
   refine ae.ok (dQ H id ver hid g caps c ho hc n (by omega) _ P X Y [] Lk L1 a m n (Nat.le_refl _) hc4 hL1 lP (by omega) (by omega) (by omega) (by omega) sX sY hlen) ?_
   simp -implicitDefEqProofs only[↓reduceIte,go_sem,Nat.reduceLT,Nat.reduceEqDiff,t6,w1']
   refine⟨_,_,y,ak.refl _ _,⟨by omega,by omega,⟨L1,rfl,hst1,lL1,all L1 lL1 hso1⟩,?_⟩,by omega⟩
   simp -implicitDefEqProofs only[↓reduceIte,go_sem,Nat.reduceLT,Nat.reduceEqDiff,reduceCtorEq,t0,t1,t2]
  ·have hso1:∀j,j<k+1→St.aw (aV c) (St.e9 y j Lk):=fun j hj=>by
    rcases Nat.lt_or_ge j k with h|h
    ·exact hso j h
    ·obtain rfl:j=k:=by omega
     have h1:=hso2 (2* j) (Nat.le_refl _)
     unfold St.e9 at h1⊢
     rw[←ha2,List.take_of_length_le (by rw[List.length_drop];omega)]at h1
     rw[←ha,List.take_of_length_le (by rw[List.length_drop];omega)]
     exact h1
   simp -implicitDefEqProofs only[↓reduceIte,go_sem,Nat.reduceLT,Nat.reduceEqDiff,t1,t6,t7,w2,eq_false hmn,w1']
   refine⟨_,_,y,ak.refl _ _,⟨by omega,by omega,⟨Lk,rfl,hst,hlen,all Lk hlen hso1⟩,?_⟩,by omega⟩
   simp -implicitDefEqProofs only[↓reduceIte,go_sem,Nat.reduceLT,Nat.reduceEqDiff,reduceCtorEq,t0,t1,t2]
 ·simp -implicitDefEqProofs only[↓reduceIte,go_sem,Nat.reduceLT,Nat.reduceEqDiff,t1,t6,eq_false hzn]
  have h0:=hbl 0
  unfold St.e9 at h0
  rw[Nat.zero_mul,List.drop_zero,List.take_of_length_le (by omega)]at h0
  rw[←hE1,St.j3 ho h0 hst]
  exact⟨_,ak.refl _ _,rfl⟩
theorem nh(H:aa)(id ver:Nat)(hid:id<H.length)(g:FuncId)(caps:List AV)(c:al→al→Int)(ho:St.Ord (aV c))(hc:ek g caps c H id)(n:Nat)(hbig:n≤100000000000)(L:List al)(hn:L.length=n):
  ag Tryz.prog 252 [.sl id ver 0 n,.fn g caps] (aH H id ver L) (.ok (.a7 [])) (aH H id ver (St.aJ (aV c) L)):=by
 have gh:=cx hid ver L
 have hs:=j4 H id ver hid g caps c ho hc n hbig L hn
 generalize aH H id ver L=E0 at*
 refine ag.ai (hint:=(fun _=>false)) Tryz.func252 (by kernel_rfl) rfl [] (by kernel_rfl) (by decide) (by simp[Tryz.ntmps252]) ?_
 rw[Tryz.ntmps252]
 simp -implicitDefEqProofs only[↓reduceIte,go_sem,Nat.reduceLT,Nat.reduceEqDiff,reduceCtorEq,gh]
 refine ae.ok hs ?_
 simp -implicitDefEqProofs only[go_sem]
 exact⟨_,ak.refl _ _,rfl⟩
end SV
end Go.Proofs.YtggohfhfocgilaaGreat
namespace Go.Proofs.YtggohfhfocgilaaGreat
open Go.Proofs.YtggohfhfocgilaaGreatAw Go.RowKit
namespace SV
def JR(g:FuncId)(caps:List AV)(c:al→al→Bool)(H:aa)(id:Nat):Prop:=∀(o:ay) (x y:al),ag Tryz.prog g ([.agg ((al.enc x).map .d),.agg ((al.enc y).map .d)]++caps) (H.set id o) (.ok (bA (c x y))) (H.set id o)
def pW:List D:=[iD 0,iD 0,.v (.string ⟨#[]⟩)]
def ia(H:aa)(id ver:Nat)(c:al→al→Bool)(L:List al):aa:=H.set id (.arr 100 3 ver ((St.az c L).map al.enc++List.replicate (L.length-(St.az c L).length) pW))
theorem fU(H:aa)(id ver:Nat)(c:al→al→Bool)(L:List al)(h:St.az c L=L):ia H id ver c L=aH H id ver L:=by
 unfold ia aH
 rw[h,Nat.sub_self,List.replicate_zero,List.append_nil]
theorem iL(H:aa)(id ver:Nat)(hid:id<H.length)(g:FuncId)(caps:List AV)(c:al→al→Bool)(hc:JR g caps c H id)(n:Nat)(hbig:n≤100000000000)(L:List al)(hn:L.length=n):
  ag Tryz.prog 253 [.sl id ver 0 n,.fn g caps] (aH H id ver L) (.ok (.sl id ver 0 (St.az c L).length)) (ia H id ver c L):=by
 have gh:=cx hid ver L
 have hcE:∀M:List al,∀x y:al,ag Tryz.prog g ([.agg ((al.enc x).map .d),.agg ((al.enc y).map .d)]++caps) (aH H id ver M) (.ok (bA (c x y))) (aH H id ver M):=fun M x y=>hc _ x y
 generalize hE1:ia H id ver c L=E1
 by_cases h2:n<2
 ·have hsame:St.az c L=L:=by
   cases L with
   |nil=>rfl
   |cons x t=>
    cases t with
    |nil=>rfl
    |cons y t=>simp at hn;omega
  have he:aH H id ver L=E1:=by rw[←hE1,fU _ _ _ _ _ hsame]
  rw[hsame,hn]
  generalize aH H id ver L=E0 at*
  subst he
  refine ag.ai (hint:=(fun _=>false)) Tryz.func253 (by kernel_rfl) rfl [4] (by kernel_rfl) (by decide) (by simp[Tryz.ntmps253]) ?_
  rw[Tryz.ntmps253]
  simp -implicitDefEqProofs only[↓reduceIte,go_sem,Nat.reduceLT,reduceCtorEq,gh,show((n:Int)<2)=True from eq_true (by omega)]
  refine an.aI ?_
  simp -implicitDefEqProofs only[↓reduceIte,go_sem,Nat.reduceLT]
 generalize hE0:aH H id ver L=E0 at gh
 refine ag.ai (hint:=(fun _=>false)) Tryz.func253 (by kernel_rfl) rfl [4] (by kernel_rfl) (by decide) (by simp[Tryz.ntmps253]) ?_
 rw[Tryz.ntmps253]
 simp -implicitDefEqProofs only[↓reduceIte,go_sem,Nat.reduceLT,reduceCtorEq,gh,show((n:Int)<2)=False from eq_false (by omega)]
 refine aA (fun k s H'=>H'=E0∧St.az c (L.take (k+1))=L.take (k+1)∧s 0= .sl id ver 0 n∧s 1= .fn g caps∧s 5=iA ((k:Int)+1)) (n-1) (by omega) (ak.refl _ _) ?_ ?_ ?_
 ·refine⟨rfl,?_,?_⟩
  ·cases L<;>rfl
  ·simp -implicitDefEqProofs only[↓reduceIte,go_sem,Nat.reduceLT,Nat.reduceEqDiff,Int.reduceAdd,reduceCtorEq]
 ·rintro k s H' hk hw ⟨rfl,hp,t0,t1,t5⟩
  obtain⟨q,hq⟩:∃q,q=k+1:=⟨_,rfl⟩
  obtain⟨x,hx⟩:∃x,L[q]?=some x:=⟨_,List.getElem?_eq_getElem (by omega)⟩
  obtain⟨y,hy⟩:∃y,L[k]?=some y:=⟨_,List.getElem?_eq_getElem (by omega)⟩
  have e1:L.take (q+1)=L.take q++[x]:=by rw[List.take_add_one,hx];rfl
  have hsn:St.az c (L.take (q+1))=St.az c (L.take q)++(if c x y=true then[]else[x]):=by
   rw[e1]
   exact St.eQ (k:=k) (by rw[List.length_take];omega) (by rw[List.getElem?_take,if_pos (by omega)];exact hy)
  rw[←hq]at hp
  have f1:((k:Int)+1)=(q:Int):=by omega
  rw[f1]at t5
  have gx:=aG hx
  have gy:=aG hy
  have hd:=hcE L x y
  rw[hE0]at hd
  have w1:IntKind.i64.wrap ((q:Int)-1)=(k:Int):=by rw[wrap64_in _ (by omega) (by omega)];omega
  have w2:IntKind.i64.wrap ((q:Int)+1)=(q:Int)+1:=wrap64_in _ (by omega) (by omega)
  have hqn:q<n:=by omega
  have hkn:k<n:=by omega
  simp only[al.enc]at gx gy
  try simp only[al.enc,List.map_cons,List.map_nil]at hd
  simp -implicitDefEqProofs only[↓reduceIte,go_sem,Nat.reduceLT,Nat.reduceEqDiff,reduceCtorEq,t0,t5,gh,eq_true hqn]
  refine aF K.mixed (by kernel_rfl) ?_
  simp -implicitDefEqProofs only[↓reduceIte,go_sem,ab,Nat.reduceAdd,Nat.reduceLT,Nat.reduceEqDiff,reduceCtorEq,t0,t1,t5,gh,gx,gy,hqn,hkn,w1]
  refine ae.ok hd ?_
  cases hcc:c x y with
  |false=>
   rw[hcc]at hsn
   simp -implicitDefEqProofs only[↓reduceIte,go_sem,Nat.reduceLT,Nat.reduceEqDiff,t5,w2]
   refine cl.same ⟨rfl,?_,?_⟩
   ·rw[←hq,hsn,hp,e1];rfl
   ·simp -implicitDefEqProofs only[↓reduceIte,go_sem,Nat.reduceLT,Nat.reduceEqDiff,reduceCtorEq,t0,t1,show((k:Int)+1)=(q:Int) by omega]
  |true=>
   rw[hcc]at hsn
   have hsn2:St.az c (L.take (q+1))=L.take q:=by rw[hsn,hp];simp
   simp -implicitDefEqProofs only[↓reduceIte,go_sem,Nat.reduceLT,Nat.reduceEqDiff,reduceCtorEq,t0,t5,gh]
   refine⟨by omega,.inr (by omega),?_⟩
   have hnq:((n:Int).toNat-q)=n-q:=by omega
   refine aA (fun k2 s H'=>(∃C K1,H'=aH H id ver C∧C=K1++L.drop K1.length∧K1=St.az c (L.take (q+k2+1))∧K1.length≤q+k2∧s 5=iA K1.length)∧s 0= .sl id ver 0 n∧s 1= .fn g caps∧s 6= .sl id ver q (n-q)∧s 7=iA ((k2:Int)+1)) (n-q-1) (by omega) (ak.refl _ _) ?_ ?_ ?_
   ·refine⟨⟨L,L.take q,hE0.symm,?_,?_,?_,?_⟩,?_⟩
    ·rw[List.length_take,Nat.min_eq_left (by omega),List.take_append_drop]
    ·rw[Nat.add_zero];exact hsn2.symm
    ·rw[List.length_take];omega
    ·rw[List.length_take,Nat.min_eq_left (by omega)];simp -implicitDefEqProofs only[↓reduceIte,go_sem,Nat.reduceEqDiff,t5]
    ·simp -implicitDefEqProofs only[↓reduceIte,go_sem,Nat.reduceLT,Nat.reduceEqDiff,Int.reduceAdd,reduceCtorEq,t0,t1]
   ·rintro k2 s H' hk2 hw3 ⟨⟨C,K1,rfl,hC,hK1,hKl,t5⟩,t0,t1,t6,t7⟩
    obtain⟨u,hu⟩:∃u,u=k2+1:=⟨_,rfl⟩
    obtain⟨v,hv⟩:∃v,v=q+u:=⟨_,rfl⟩
    obtain⟨x2,hx2⟩:∃x,L[v]?=some x:=⟨_,List.getElem?_eq_getElem (by omega)⟩
    obtain⟨y2,hy2⟩:∃y,L[v-1]?=some y:=⟨_,List.getElem?_eq_getElem (by omega)⟩
    have hCg:∀i,K1.length≤i→C[i]?=L[i]?:=fun i hi=>by
     rw[hC,List.getElem?_append_right hi,List.getElem?_drop,Nat.add_sub_cancel' hi]
    have hCl:C.length=n:=by rw[hC,List.length_append,List.length_drop];omega
    have e2:L.take (v+1)=L.take v++[x2]:=by rw[List.take_add_one,hx2];rfl
    have hsn3:St.az c (L.take (v+1))=K1++(if c x2 y2=true then[]else[x2]):=by
     rw[e2,hK1,show q+k2+1=v by omega]
     exact St.eQ (k:=v-1) (by rw[List.length_take];omega) (by rw[List.getElem?_take,if_pos (by omega)];exact hy2)
    have gx2:=aG ((hCg v (by omega)).trans hx2)
    have gy2:=aG ((hCg (v-1) (by omega)).trans hy2)
    have hd2:=hcE C x2 y2
    have gC:=cx hid ver C
    have f2:((k2:Int)+1)=(u:Int):=by omega
    rw[f2]at t7
    have w3:IntKind.i64.wrap ((u:Int)-1)=(k2:Int):=by rw[wrap64_in _ (by omega) (by omega)];omega
    have w4:IntKind.i64.wrap ((u:Int)+1)=(u:Int)+1:=wrap64_in _ (by omega) (by omega)
    have f3:q+u=v:=hv.symm
    have f4:q+k2=v-1:=by omega
    have hun:u<n-q:=by omega
    have hkn2:k2<n-q:=by omega
    simp only[al.enc]at gx2 gy2
    try simp only[al.enc,List.map_cons,List.map_nil]at hd2
    simp -implicitDefEqProofs only[↓reduceIte,go_sem,Nat.reduceLT,Nat.reduceEqDiff,t6,t7,gC,eq_true hun]
    refine aF K.mixed (by kernel_rfl) ?_
    simp -implicitDefEqProofs only[↓reduceIte,go_sem,ab,Nat.reduceAdd,Nat.reduceLT,Nat.reduceEqDiff,t1,t6,t7,gC,w3,hun,hkn2,f3,f4,gx2,gy2]
    refine ae.ok hd2 ?_
    cases hc2:c x2 y2 with
    |true=>
     rw[hc2]at hsn3
     simp -implicitDefEqProofs only[↓reduceIte,go_sem,Nat.reduceLT,Nat.reduceEqDiff,t7,w4]
     refine cl.same ⟨⟨C,K1,rfl,hC,?_,by omega,?_⟩,?_⟩
     ·rw[show q+(k2+1)+1=v+1 by omega,hsn3];simp
     ·simp -implicitDefEqProofs only[↓reduceIte,go_sem,Nat.reduceEqDiff,t5]
     ·simp -implicitDefEqProofs only[↓reduceIte,go_sem,Nat.reduceLT,Nat.reduceEqDiff,reduceCtorEq,t0,t1,t6,show((k2:Int)+1)=(u:Int) by omega]
    |false=>
     rw[hc2]at hsn3
     obtain⟨r,hr⟩:∃r,r=K1.length:=⟨_,rfl⟩
     rw[←hr]at t5
     have hrn:r<n:=by omega
     have w5:IntKind.i64.wrap ((r:Int)+1)=((r+1:Nat):Int):=by rw[wrap64_in _ (by omega) (by omega)];omega
     obtain⟨r2,hr2⟩:∃r2,r2=r+1:=⟨_,rfl⟩
     rw[←hr2]at w5
     have s1:=cq C r x2
     obtain⟨z0,hz0⟩:∃z,C[r]?=some z:=⟨_,List.getElem?_eq_getElem (by omega)⟩
     have gz:=aG hz0
     simp only[al.enc]at s1 gz
     simp -implicitDefEqProofs only[↓reduceIte,go_sem,ab,aq,Nat.reduceAdd,Nat.reduceLT,Nat.reduceEqDiff,reduceCtorEq,t0,t5,t6,t7,gC,hun,hrn,f3,gx2,gz,s1,eB,w4,w5]
     refine cl.same ⟨⟨C.set r x2,K1++[x2],by rw[←dT],?_,?_,?_,?_⟩,?_⟩
     ·have e3:L.drop r=L[r]'(by omega)::L.drop (r+1):=List.drop_eq_getElem_cons (by omega)
      rw[hC,←hr,e3,cy hr.symm];simp[hr]
     ·rw[show q+(k2+1)+1=v+1 by omega,hsn3];simp
     ·rw[List.length_append,List.length_singleton];omega
     ·simp -implicitDefEqProofs only[↓reduceIte,go_sem,Nat.reduceLT,Nat.reduceEqDiff,List.length_append,show((K1.length:Int)+1)=(r2:Int) by omega]
     ·simp -implicitDefEqProofs only[↓reduceIte,go_sem,Nat.reduceLT,Nat.reduceEqDiff,reduceCtorEq,t0,t1,t6,show((k2:Int)+1)=(u:Int) by omega]
   ·rintro s H' ⟨⟨C,K1,rfl,hC,hK1,hKl,t5⟩,t0,t1,t6,t7⟩
    have hK2:St.az c L=K1:=by rw[hK1,List.take_of_length_le (by omega)]
    have hCl:C.length=n:=by rw[hC,List.length_append,List.length_drop];omega
    have gC:=cx hid ver C
    have hlt:((((n-q-1:Nat):Int)+1)<((n-q:Nat):Int))=False:=eq_false (by omega)
    obtain⟨r,hr⟩:∃r,r=K1.length:=⟨_,rfl⟩
    rw[←hr]at t5
    have hrn:((n:Int).toNat-r)=n-r:=by omega
    have hCt:C.take r=K1:=by rw[hC,hr,List.take_left]
    have hsr:bQ (C.map al.enc) r (fh (.agg #[.int .i64 0,.int .i64 0,.string ⟨#[]⟩]) (n-r))=(St.az c L).map al.enc++List.replicate (L.length-(St.az c L).length) pW:=by
     unfold bQ
     rw[←List.map_take,hCt,List.drop_of_length_le (by simp[fh];omega),List.append_nil,hK2,hn,←hr]
     rfl
    have hfo:H.set id (.arr 100 3 ver ((St.az c L).map al.enc++List.replicate (L.length-(St.az c L).length) pW))=E1:=hE1
    have gE:E1[id]?=some (.arr 100 3 ver ((St.az c L).map al.enc++List.replicate (L.length-(St.az c L).length) pW)):=by rw[←hfo];simp[hid]
    simp -implicitDefEqProofs only[↓reduceIte,go_sem,Nat.reduceAdd,Nat.reduceLT,Nat.reduceEqDiff,reduceCtorEq,t0,t5,t6,t7,gC,hlt]
    refine⟨by omega,.inr (by omega),?_⟩
    rw[hsr,eB,hfo]
    simp -implicitDefEqProofs only[↓reduceIte,go_sem,Nat.reduceLT,Int.reduceLE,Int.reduceToNat,gE]
    refine⟨by omega,.inl trivial,_,ak.refl _ _,?_⟩
    simp -implicitDefEqProofs only[↓reduceIte,go_sem,Nat.reduceLT,hK2,←hr,Nat.sub_zero]
 ·rintro s H' ⟨rfl,hp,t0,t1,t5⟩
  have hsame:St.az c L=L:=by rwa[show n-1+1=n by omega,←hn,List.take_length]at hp
  have he:H'=E1:=by rw[←hE1,fU _ _ _ _ _ hsame,hE0]
  simp -implicitDefEqProofs only[↓reduceIte,go_sem,Nat.reduceLT,Nat.reduceEqDiff,reduceCtorEq,t0,t5,gh,show(((n-1:Nat):Int)+1<(n:Int))=False from eq_false (by omega)]
  rw[←he,hsame,hn]
  refine an.aI ?_
  simp -implicitDefEqProofs only[↓reduceIte,go_sem,Nat.reduceLT]
end SV
end Go.Proofs.YtggohfhfocgilaaGreat
namespace Go.Proofs.YtggohfhfocgilaaGreat
open Go.Proofs.YtggohfhfocgilaaGreatAw Go.RowKit
def IS(a b:al):Bool:=decide (aO a b=0)
theorem tH(a b:al)(H:aa):ag Tryz.prog 254 [a.av,b.av] H (.ok (bA (IS a b))) H:=by
 refine ag.ai (hint:=(fun _=>false)) Tryz.func254 (by kernel_rfl) rfl [4] (by kernel_rfl) (by decide) (by simp[Tryz.ntmps254]) ?_
 rw[Tryz.ntmps254]
 simp -implicitDefEqProofs only[↓reduceIte,go_sem,ab,Nat.reduceAdd,Nat.reduceLT,Nat.reduceEqDiff]
 refine ae.ok (cF a b _) ?_
 simp -implicitDefEqProofs only[↓reduceIte,go_sem,Nat.reduceLT]
 refine an.ret ?_
 simp -implicitDefEqProofs only[↓reduceIte,go_sem,Nat.reduceLT,IS]
theorem yh(l:List al)(nn:Bool)(H:aa)(hl:l.length≤10000000000):ag Tryz.prog 229 [.d (.list nn (l.map al.enc))] H (.ok (.d (.list false ((bV aO l).map al.enc)))) H:=by
 have ho:St.Ord (SV.aV aO):=eE.ord
 obtain⟨H1,hH1⟩:∃H1,H1=H++[ay.arr 100 3 1 (l.map al.enc)]:=⟨_,rfl⟩
 have hid:H.length<H1.length:=by rw[hH1];simp
 have e0:H1=SV.aH H1 H.length 1 l:=by
  unfold SV.aH
  rw[hH1];simp
 have hs:=SV.nh H1 H.length 1 hid 154 [] aO ho (fun o x y=>cF x y _) l.length (by omega) l rfl
 rw[←e0]at hs
 have hc:=SV.iL H1 H.length 1 hid 254 [] IS (fun o x y=>tH x y _) l.length (by omega) (St.aJ (SV.aV aO) l) (St.aW _)
 have hk:=SV.dX l nn H (by omega)
 rw[←hH1]at hk
 have hn:St.az IS (St.aJ (SV.aV aO) l)=bV aO l:=rfl
 have hfin:SV.ia H1 H.length 1 IS (St.aJ (SV.aV aO) l)=H++[ay.arr 100 3 1 ((bV aO l).map al.enc++List.replicate (l.length-(bV aO l).length) SV.pW)]:=by
  unfold SV.ia
  rw[hH1,St.aW,hn]
  simp
 refine ag.ai (hint:=(fun _=>false)) Tryz.func229 (by kernel_rfl) rfl [2] (by kernel_rfl) (by decide) (by simp[Tryz.ntmps229]) ?_
 rw[Tryz.ntmps229]
 simp -implicitDefEqProofs only[↓reduceIte,go_sem,Nat.reduceLT,reduceCtorEq]
 refine ae.ok hk ?_
 simp -implicitDefEqProofs only[↓reduceIte,go_sem,Nat.reduceLT]
 refine ae.ok hs ?_
 simp -implicitDefEqProofs only[↓reduceIte,go_sem,Nat.reduceLT,Nat.reduceEqDiff]
 refine ae.ok hc ?_
 rw[hfin]
 simp -implicitDefEqProofs only[↓reduceIte,go_sem,Nat.reduceLT,hn]
 refine an.ret ?_
 have ht:((bV aO l).map al.enc++List.replicate (l.length-(bV aO l).length) SV.pW).take (bV aO l).length=(bV aO l).map al.enc:=by rw[List.take_left' (by simp)]
 simp -implicitDefEqProofs only[↓reduceIte,go_sem,Nat.reduceLT,ht]
def C7(W:List al):Prop:=W.Pairwise (fun x y=>tB aO x y=true)
theorem C7.get{W:List al}(h:C7 W){i j:Nat}{x y:al}(hx:W[i]?=some x)(hy:W[j]?=some y):aO x y<0↔i<j:=by
 have key:∀{i j:Nat} {x y:al},W[i]?=some x→W[j]?=some y→i<j→aO x y<0:=by
  intro i j x y hx hy hij
  obtain⟨h1,rfl⟩:=List.getElem?_eq_some_iff.1 hx
  obtain⟨h2,rfl⟩:=List.getElem?_eq_some_iff.1 hy
  have:=List.pairwise_iff_getElem.1 h i j h1 h2 hij
  simpa[tB]using this
 constructor
 ·intro g
  rcases Nat.lt_trichotomy i j with h1|h1|h1
  ·exact h1
  ·subst h1
   rw[hx]at hy;cases hy
   have:=eE.self x
   omega
  ·have:=key hy hx h1
   have:=(eE.gj x y).1 g
   omega
 ·exact key hx hy
theorem C7.below{v:al}:∀{W:List al},C7 W→∀{i:Nat} {y:al},W[i]?=some y→(aO y v<0↔i<jL W v)
 |[],_,i,y,hy=>by simp at hy
 |x::t,h,i,y,hy=>by
  have h1:=List.pairwise_cons.1 h
  have hb:jL (x::t) v=jL t v+if aO x v<0 then 1 else 0:=by
   unfold jL
   rw[List.countP_cons]
   by_cases h:aO x v<0<;>simp[h]
  by_cases hx:aO x v<0
  ·rw[hb,if_pos hx]
   cases i with
   |zero=>
    simp at hy;subst hy
    simp[hx]
   |succ i=>
    have:=C7.below (v:=v) h1.2 (i:=i) (y:=y) (by simpa using hy)
    omega
  ·rw[hb,if_neg hx,Nat.add_zero]
   have hz:jL t v=0:=by
    unfold jL
    rw[List.countP_eq_zero]
    intro w hw
    have h2:=h1.1 w hw
    intro h3
    have h4:=eE.ord.trans h2 (show tB aO w v=true by simpa[tB]using h3)
    exact hx (by simpa[tB]using h4)
   rw[hz]
   refine⟨fun g=>?_,fun g=>by omega⟩
   exfalso
   cases i with
   |zero=>simp at hy;subst hy;exact hx g
   |succ i=>
    have hyt:y∈t:=List.mem_of_getElem? (i:=i) (by simpa using hy)
    have:0<jL t v:=by
     unfold jL
     rw[List.countP_pos_iff]
     exact⟨y,hyt,by simpa using g⟩
    omega
theorem wZ{W:List al}{a:al}(h:∃y∈W,aO y a=0):∃(i:Nat) (y:al),cC W a=i∧W[i]?=some y∧aO y a=0:=by
 obtain⟨y,hy,hc⟩:=h
 have hany:W.any (fun w=>decide (aO w a=0))=true:=List.any_eq_true.2 ⟨y,hy,by simpa using hc⟩
 have hlt:W.findIdx (fun w=>decide (aO w a=0))<W.length:=List.findIdx_lt_length_of_exists ⟨y,hy,by simpa using hc⟩
 refine⟨W.findIdx (fun w=>decide (aO w a=0)),W[W.findIdx (fun w=>decide (aO w a=0))],?_,List.getElem?_eq_getElem hlt,?_⟩
 ·unfold cC kD
  rw[if_pos hany]
 ·have:=List.findIdx_getElem (w:=hlt)
  simpa using this
theorem nq{l:List al}{a:al}(h:a∈l):∃(i:Nat) (y:al),cC (bV aO l) a=i∧(bV aO l)[i]?=some y∧aO y a=0:=by
 obtain⟨y,hy,hc⟩:=Bc eE h
 exact wZ ⟨y,hy,(eE.zero a y).1 hc⟩
def nG(l:List al)(a:al):Nat:=(cC (bV aO l) a).toNat
theorem qy(l:List al):eW (bV aO l) l=true:=by
 unfold eW
 rw[List.all_eq_true]
 intro a ha
 obtain⟨i,y,hi,_⟩:=nq ha
 rw[hi];simp
theorem sr(l:List al):sM (bV aO l) l= .a7 [.d (.list false (us (l.map (nG l)))),iA 0]:=by
 unfold sM wj yL
 rw[qy]
 rfl
end Go.Proofs.YtggohfhfocgilaaGreat
