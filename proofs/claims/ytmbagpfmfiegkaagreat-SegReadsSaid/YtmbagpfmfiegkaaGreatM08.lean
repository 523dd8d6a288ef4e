/- Contracts of functions and lemmas for segReads_holds, part 8. -/
import Derived.Test.YtmbagpfmfiegkaaGreatM07
set_option maxHeartbeats 8000000
set_option maxRecDepth 100000
set_option linter.all false
namespace Go.Proofs.YtmbagpfmfiegkaaGreat
open Go.Proofs.YtmbagpfmfiegkaaGreatAw Go.RowKit
theorem Gr{w t:Nat}(ht:t<2):iB (w^^^t)=if w%2=t then w/2 else w/2^^^3988292384:=by
 have h1:(w^^^t)/2=w/2:=by rw[Nat.xor_div_two,show t/2=0 by omega,Nat.xor_zero]
 have h2:= @Nat.xor_mod_two_eq_one w t
 unfold iB
 rw[h1]
 by_cases c:w%2=t
 ·rw[if_pos c,if_neg (by rw[h2];omega)]
 ·rw[if_neg c,if_pos (by rw[h2];omega)]
theorem Bu(w t:Nat)(hw:w<4294967296)(ht:t<2)(H:aa):ag Tryz.prog 56 [wA w,wA t] H (.ok (wA (iB (w^^^t)))) H:=by
 have d1:(w:Int).tmod 2=((w%2:Nat):Int):=(Int.ofNat_tmod w 2).symm
 have d2:(w:Int).tdiv 2=((w/2:Nat):Int):=(Int.ofNat_tdiv w 2).symm
 have w1:=eG (w/2) (by omega)
 have w2:=eG (w%2) (by omega)
 have w3:=HK (a:=w/2) (b:=3988292384) (by omega) (by omega)
 rw[show((3988292384:Nat):Int)=3988292384 from rfl]at w3
 rw[Gr ht]
 obtain⟨q,hq⟩:∃q:Int,q=((w/2:Nat):Int):=⟨_,rfl⟩
 rw[←hq]at d2 w1 w3
 refine ag.aj (hint:=(fun _=>false)) Tryz.func56 (by kernel_rfl) rfl [4] (by kernel_rfl) (by decide) (by simp[Tryz.ntmps56]) ?_
 rw[Tryz.ntmps56]
 by_cases c:w%2=t
 ·rw[if_pos c]
  rw[c]at d1 w2
  simp -implicitDefEqProofs only[↓reduceIte,go_sem,Nat.reduceLT,Nat.reduceEqDiff,Int.reduceEq,reduceCtorEq,d1,d2,w1]
  refine aw.aI ?_
  simp -implicitDefEqProofs only[↓reduceIte,go_sem,Nat.reduceLT,hq]
 ·rw[if_neg c]
  have c2:(((w%2:Nat):Int)=(t:Int))=False:=eq_false (by omega)
  generalize ((w%2:Nat):Int)=m at*
  simp -implicitDefEqProofs only[↓reduceIte,go_sem,Nat.reduceLT,Nat.reduceEqDiff,Int.reduceEq,reduceCtorEq,d1,d2,w1,w3,c2]
  refine aw.aI ?_
  simp -implicitDefEqProofs only[↓reduceIte,go_sem,Nat.reduceLT]
theorem mod_succ(c k:Nat):c%2^(k+1)=c%2^k^^^c/2^k%2* 2^k:=by
 apply Nat.eq_of_testBit_eq
 intro i
 rw[Nat.testBit_xor,Nat.testBit_mod_two_pow,Nat.testBit_mod_two_pow,Nat.testBit_mul_two_pow,show c/2^k%2=c/2^k%2^1 from rfl,Nat.testBit_mod_two_pow,Nat.testBit_div_two_pow]
 by_cases h:i<k
 ·simp[h,show i<k+1 by omega,show ¬k≤i by omega]
 ·by_cases h2:i=k
  ·subst h2;simp
  ·simp[h,show ¬i<k+1 by omega,show ¬i-k<1 by omega]
theorem ED(w c k:Nat):dM (w^^^c%2^(k+1)) (k+1)=iB (dM (w^^^c%2^k) k^^^c/2^k%2):=by
 show iB (dM _ k)=_
 rw[mod_succ,←Nat.xor_assoc,nO (w^^^c%2^k),th]
theorem Dt{b:List Nat}(hb:∀c∈b,c<256):lJ b<4294967296:=by
 have:∀(b:List Nat) (w:Nat),w<4294967296→(∀c∈b,c<256)→NQ w b<4294967296:=by
  intro b
  induction b with
  |nil=>exact fun w h _=>h
  |cons c b ih=>
   intro w hw hb
   refine ih _ ?_ fun x hx=>hb x (by simp[hx])
   have:=hb c (by simp)
   exact Nat.xor_lt_two_pow (n:=32) (by omega) (wF (Nat.xor_lt_two_pow (n:=8) (by omega) (by omega)))
 exact this b _ (by decide) hb
theorem DH(b:List Nat){c:Nat}(hc:c<256):lJ (b++[c])=dM (lJ b^^^c) 8:=by
 unfold lJ
 rw[List.foldl_append]
 exact EK _ hc
theorem EG(b:List Nat)(nn:Bool)(hb:∀c∈b,c<256)(hl:b.length≤140737488355328)(H:aa):ag Tryz.prog 25 [.d (.list nn (aD b))] H (.ok (wA (iK b))) H:=by
 refine ag.aj (hint:=(fun _=>false)) Tryz.func25 (by kernel_rfl) rfl [2] (by kernel_rfl) (by decide) (by simp[Tryz.ntmps25]) ?_
 rw[Tryz.ntmps25]
 simp -implicitDefEqProofs only[go_sem]
 refine aP (fun i s H'=>H'=H∧s 0= .d (.list nn (aD b))∧s 3=wA (lJ (b.take i))∧s 4=iA i) b.length (by omega) (ay.refl _ _) ?_ ?_ ?_
 ·refine⟨rfl,?_⟩
  simp -implicitDefEqProofs only[↓reduceIte,go_sem,Nat.reduceLT,Nat.reduceEqDiff,reduceCtorEq]
  rfl
 ·rintro i s H' hi hw ⟨rfl,t0,t3,t4⟩
  have hc:=hb _ (List.getElem_mem hi)
  have hx:(aD b)[i]?=some [.v (.int .u8 ((b[i]:Nat):Int))]:=by unfold aD;rw[List.getElem?_map,List.getElem?_eq_getElem hi];rfl
  have hws:=Dt (b:=b.take i) fun c hc=>hb c (List.mem_of_mem_take hc)
  have e1:lJ (b.take (i+1))=dM (lJ (b.take i)^^^b[i]) 8:=by rw[List.take_succ_eq_append_getElem hi,DH _ hc]
  rw[e1]
  generalize lJ (b.take i)=w at*
  generalize b[i]=c at*
  have w1:=eG c (by omega)
  simp -implicitDefEqProofs only[↓reduceIte,go_sem,Nat.reduceLT,Nat.reduceEqDiff,reduceCtorEq,t0,t4,ai,hi,hx,w1]
  refine aP (fun k s G=>G=H'∧s 0= .d (.list nn (aD b))∧s 3=wA (dM (w^^^c%2^k) k)∧s 4=iA i∧s 5=wA (c/2^k)∧s 6=iA k) 8 (by omega) (ay.refl _ _) ?_ ?_ ?_
  ·refine⟨rfl,?_⟩
   simp -implicitDefEqProofs only[↓reduceIte,go_sem,Nat.reduceLT,Nat.reduceEqDiff,reduceCtorEq,t0,t3,t4]
   have:w^^^c%2^0=w:=by simp[Nat.mod_one]
   rw[this]
   simp[dM]
  ·rintro k s H' hk hw2 ⟨rfl,t0,t3,t4,t5,t6⟩
   have hr:=ED w c k
   have hwl:dM (w^^^c%2^k) k<4294967296:=mG (Nat.xor_lt_two_pow (n:=32) (by omega) (Nat.lt_of_le_of_lt (Nat.mod_le _ _) (by omega))) k
   have hdiv:c/2^(k+1)=c/2^k/2:=by rw[Nat.pow_succ,Nat.div_div_eq_div_mul]
   have hdl:c/2^k≤c:=Nat.div_le_self _ _
   rw[hr,hdiv]
   generalize dM (w^^^c%2^k) k=r at*
   generalize c/2^k=d at*
   have d1:(d:Int).tmod 2=((d%2:Nat):Int):=(Int.ofNat_tmod d 2).symm
   have d2:(d:Int).tdiv 2=((d/2:Nat):Int):=(Int.ofNat_tdiv d 2).symm
   have w1:=eG (d/2) (by omega)
   have w2:=eG (d%2) (by omega)
   have hs:=fun H=>Bu r (d%2) hwl (by omega) H
   generalize d%2=m at*
   generalize d/2=q at*
   have w3:IntKind.i64.wrap ((k:Int)+1)=(k:Int)+1:=wrap64_in _ (by omega) (by omega)
   simp -implicitDefEqProofs only[↓reduceIte,go_sem,Nat.reduceLT,Nat.reduceEqDiff,Int.reduceEq,t3,t5,t6,d1,show((k:Int)<8)=True from eq_true (by omega)]
   refine ae.ok (hs _) ?_
   simp -implicitDefEqProofs only[↓reduceIte,go_sem,Nat.reduceLT,Nat.reduceEqDiff,Int.reduceEq,t5,t6,d2,w1,w3]
   refine c9.same ⟨rfl,?_⟩
   simp -implicitDefEqProofs only[↓reduceIte,go_sem,Nat.reduceLT,Nat.reduceEqDiff,reduceCtorEq,t0,t4]
  ·rintro s H' ⟨rfl,t0,t3,t4,t5,t6⟩
   have e2:c%2^8=c:=Nat.mod_eq_of_lt hc
   rw[e2]at t3
   have w3:IntKind.i64.wrap ((i:Int)+1)=(i:Int)+1:=wrap64_in _ (by omega) (by omega)
   simp -implicitDefEqProofs only[↓reduceIte,go_sem,Nat.reduceLT,Nat.reduceEqDiff,Int.reduceLT,t6,t4,w3]
   refine c9.same ⟨rfl,?_⟩
   simp -implicitDefEqProofs only[↓reduceIte,go_sem,Nat.reduceLT,Nat.reduceEqDiff,reduceCtorEq,t0,t3]
 ·rintro s H' ⟨rfl,t0,t3,t4⟩
  rw[List.take_length]at t3
  have hws:=Dt hb
  have w1:=eG (4294967295-lJ b) (by omega)
  have w2:(4294967295:Int)-(lJ b:Int)=((4294967295-lJ b:Nat):Int):=by omega
  unfold iK
  generalize 4294967295-lJ b=x at*
  simp -implicitDefEqProofs only[↓reduceIte,go_sem,Nat.reduceLT,Nat.reduceEqDiff,reduceCtorEq,t0,t3,t4,ai,w2,w1]
  refine aw.aI ?_
  simp -implicitDefEqProofs only[↓reduceIte,go_sem,Nat.reduceLT]
theorem qg(b:List Nat)(nn:Bool)(hb:∀c∈b,c<256)(hl:b.length≤1000000000)(H:aa):ag Tryz.prog 10 [.d (.list nn (aD b))] H (.ok (.d (.list false (aD (bZ b))))) H:=by
 have hs:=fun H=>EG b nn hb (by omega) H
 have hc:=xl b
 have hp:=fun H=>gK b.length (by omega) H
 have hpl:=bD 10 b.length (by omega)
 unfold bZ
 generalize iK b=w at*
 generalize bp b.length=p at*
 have wl:IntKind.u64.wrap (b.length:Int)=(b.length:Int):=aK _ (by omega)
 have d0:(w:Int).tmod 256=((w%256:Nat):Int):=(Int.ofNat_tmod w 256).symm
 have d1:(w:Int).tdiv 256=((w/256:Nat):Int):=(Int.ofNat_tdiv w 256).symm
 have d2:(w:Int).tdiv 65536=((w/65536:Nat):Int):=(Int.ofNat_tdiv w 65536).symm
 have d3:(w:Int).tdiv 16777216=((w/16777216:Nat):Int):=(Int.ofNat_tdiv w 16777216).symm
 have w1:=eG (w/256) (by omega)
 have w2:=eG (w/65536) (by omega)
 have w3:=eG (w/16777216) (by omega)
 have m1:((w/256:Nat):Int).tmod 256=((w/256%256:Nat):Int):=(Int.ofNat_tmod _ 256).symm
 have m2:((w/65536:Nat):Int).tmod 256=((w/65536%256:Nat):Int):=(Int.ofNat_tmod _ 256).symm
 have f:dL w=[w%256,w/256%256,w/65536%256,w/16777216]:=by simp only[dL];congr 3;rw[Nat.mod_eq_of_lt (by omega)]
 have b3:w/16777216<256:=by omega
 have b0:w%256<256:=by omega
 have b1:w/256%256<256:=by omega
 have b2:w/65536%256<256:=by omega
 rw[f]
 generalize w%256=x0 at*
 generalize w/256%256=x1 at*
 generalize w/65536%256=x2 at*
 generalize w/16777216=x3 at*
 generalize ((w/256:Nat):Int)=y1 at*
 generalize ((w/65536:Nat):Int)=y2 at*
 have c0:=eG x0 (by omega)
 have c1:=eG x1 (by omega)
 have c2:=eG x2 (by omega)
 have e0:IntKind.u8.wrap (x0:Int)=(x0:Int):=by rw[nT,Nat.mod_eq_of_lt b0]
 have e1:IntKind.u8.wrap (x1:Int)=(x1:Int):=by rw[nT,Nat.mod_eq_of_lt b1]
 have e2:IntKind.u8.wrap (x2:Int)=(x2:Int):=by rw[nT,Nat.mod_eq_of_lt b2]
 have e3:IntKind.u8.wrap (x3:Int)=(x3:Int):=by rw[nT,Nat.mod_eq_of_lt b3]
 refine ag.aj (hint:=(fun _=>false)) Tryz.func10 (by kernel_rfl) rfl [2] (by kernel_rfl) (by decide) (by simp[Tryz.ntmps10]) ?_
 rw[Tryz.ntmps10]
 simp -implicitDefEqProofs only[↓reduceIte,go_sem,Nat.reduceLT,reduceCtorEq]
 refine ae.ok (hs _) ?_
 simp -implicitDefEqProofs only[↓reduceIte,go_sem,Nat.reduceLT,reduceCtorEq,ai,wl]
 refine ae.ok (hp _) ?_
 simp -implicitDefEqProofs only[↓reduceIte,go_sem,Nat.reduceAdd,Nat.reduceLT,Nat.reduceLeDiff,Nat.reduceEqDiff,Int.reduceEq,reduceCtorEq,aL,ai,d0,d1,d2,d3,w1,w2,w3,m1,m2,e0,e1,e2,e3]
 refine⟨by omega,by omega,(by rintro c (rfl|rfl|rfl|rfl)<;>rfl),by omega,by omega,?_⟩
 have e4:∀M:List (List D),M++[[D.v (.int .u8 (x0:Int))],[.v (.int .u8 (x1:Int))],[.v (.int .u8 (x2:Int))],[.v (.int .u8 (x3:Int))]]=M++aD [x0,x1,x2,x3]:=fun M=>rfl
 refine aw.ret ?_
 simp -implicitDefEqProofs only[↓reduceIte,go_sem,Nat.reduceLT,e4,dh,List.append_assoc]
 rw[bQ _ _ (by rw[ai];simp[Nat.add_assoc])]
theorem A6(b:List Nat)(nn:Bool)(most:Nat)(hm:most≤1048576)(hb:∀c∈b,c<256)(hl:b.length≤140737488351232)(H:aa):
  ag Tryz.prog 23 [.d (.list nn (aD b)),iA most] H (.ok (.bz [.d (.list false (aD (cu b most).1)),.d (.list false (aD (cu b most).2.1)),iA (cu b most).2.2])) H:=by
 have hg:=fun H=>fx b nn hl hb H
 have hle:=eO b
 have hca:=fun n k h=>gW (n:=n) (k:=k) hb h
 unfold cu r5 uB
 generalize aQ b=g at*
 obtain⟨n,k,e⟩:=g
 simp only at hg hle hca⊢
 have wm:IntKind.u64.wrap (most:Int)=(most:Int):=aK _ (by omega)
 have mneg:((most:Int)<0)=False:=eq_false (by omega)
 by_cases he:e≠0
 ·rw[if_pos he]
  refine ag.bE (cs:=[.d (.v (.slice none 0 0)),.d (.v (.slice none 0 0)),iA e]) ?_ (.cons .nil (.cons .nil (.cons (.refl _) .nil)))
  refine ag.aj (hint:=(fun _=>false)) Tryz.func23 (by kernel_rfl) rfl [4,5,6] (by kernel_rfl) (by decide) (by simp[Tryz.ntmps23]) ?_
  rw[Tryz.ntmps23]
  simp -implicitDefEqProofs only[↓reduceIte,go_sem,Nat.reduceLT,reduceCtorEq]
  refine ae.ok (hg _) ?_
  simp -implicitDefEqProofs only[↓reduceIte,go_sem,Nat.reduceLT,Nat.reduceEqDiff,he]
  refine aw.aI ?_
  simp -implicitDefEqProofs only[↓reduceIte,go_sem,Nat.reduceLT,Nat.reduceEqDiff]
 rw[if_neg he]
 obtain rfl:e=0:=by simpa using he
 by_cases h1:most<n
 ·rw[if_pos h1]
  refine ag.bE (cs:=[.d (.v (.slice none 0 0)),.d (.v (.slice none 0 0)),iA 2]) ?_ (.cons .nil (.cons .nil (.cons (.refl _) .nil)))
  refine ag.aj (hint:=(fun _=>false)) Tryz.func23 (by kernel_rfl) rfl [4,5,6] (by kernel_rfl) (by decide) (by simp[Tryz.ntmps23]) ?_
  rw[Tryz.ntmps23]
  simp -implicitDefEqProofs only[↓reduceIte,go_sem,Nat.reduceLT,reduceCtorEq]
  refine ae.ok (hg _) ?_
  simp -implicitDefEqProofs only[↓reduceIte,go_sem,Nat.reduceLT,Nat.reduceEqDiff,reduceCtorEq,mneg,wm,show((most:Int)<(n:Int))=True from eq_true (by omega)]
  refine aw.aI ?_
  simp -implicitDefEqProofs only[↓reduceIte,go_sem,Nat.reduceLT,Nat.reduceEqDiff]
 rw[if_neg h1]
 have h1f:((most:Int)<(n:Int))=False:=eq_false (by omega)
 have w1:IntKind.i64.wrap ((b.length:Int)-(k:Int))=((b.length-k:Nat):Int):=by rw[wrap64_in _ (by omega) (by omega)];omega
 have w2:IntKind.u64.wrap ((b.length-k:Nat):Int)=((b.length-k:Nat):Int):=aK _ (by omega)
 have w3:IntKind.u64.wrap ((n:Int)+4)=((n+4:Nat):Int):=by
  have:=aK (n+4) (by omega)
  rw[←this];rfl
 by_cases h2:b.length-k<n+4
 ·rw[if_pos h2]
  have h2t:(((b.length-k:Nat):Int)<(n:Int)+4)=True:=eq_true (by omega)
  refine ag.bE (cs:=[.d (.v (.slice none 0 0)),.d (.v (.slice none 0 0)),iA 3]) ?_ (.cons .nil (.cons .nil (.cons (.refl _) .nil)))
  refine ag.aj (hint:=(fun _=>false)) Tryz.func23 (by kernel_rfl) rfl [4,5,6] (by kernel_rfl) (by decide) (by simp[Tryz.ntmps23]) ?_
  rw[Tryz.ntmps23]
  simp -implicitDefEqProofs only[↓reduceIte,go_sem,Nat.reduceLT,reduceCtorEq]
  refine ae.ok (hg _) ?_
  simp -implicitDefEqProofs only[↓reduceIte,go_sem,Nat.reduceLT,Nat.reduceEqDiff,reduceCtorEq,mneg,wm,h1f,ai,w1,w2,w3,h2t]
  refine aw.aI ?_
  simp -implicitDefEqProofs only[↓reduceIte,go_sem,Nat.reduceLT,Nat.reduceEqDiff]
 rw[if_neg h2]
 have h2f:(((b.length-k:Nat):Int)<(n:Int)+4)=False:=eq_false (by omega)
 obtain⟨hk,hbp⟩:=hca n k rfl
 obtain⟨q,hq⟩:∃q,q=k+n:=⟨_,rfl⟩
 have w4:IntKind.i64.wrap (n:Int)=(n:Int):=wrap64_in _ (by omega) (by omega)
 have w5:IntKind.i64.wrap ((k:Int)+(n:Int))=(q:Int):=by rw[wrap64_in _ (by omega) (by omega)];omega
 have hx:List.drop k ((aD b).take q)=aD ((b.drop k).take n):=by
  unfold aD
  rw[←List.map_take,←List.map_drop,List.drop_take,hq,Nat.add_sub_cancel_left]
 have hXl:((b.drop k).take n).length=n:=by rw[List.length_take,List.length_drop];omega
 have hXb:cb ((b.drop k).take n):=fun c hc=>hb c (List.mem_of_mem_drop (List.mem_of_mem_take hc))
 have hbk:=fun H=>qg ((b.drop k).take n) false hXb (by omega) H
 have hAl:(bZ ((b.drop k).take n)).length=q+4:=by unfold bZ;simp only[List.length_append,hXl,dL,List.length_cons,List.length_nil];omega
 have hAb:cb (bZ ((b.drop k).take n)):=((dH (by omega)).app hXb).app (oM _)
 have hbt:b.take (q+4)=bp n++((b.drop k).take n++(b.drop q).take 4):=by
  conv=>lhs;rw[hbp]
  rw[List.take_append,List.take_of_length_le (by omega),←hk,show q+4-k=n+4 by omega,List.take_add,List.drop_drop,show k+n=q by omega]
 have hiff:decide (bZ ((b.drop k).take n)=b.take (q+4))=decide (dL (iK ((b.drop k).take n))=(b.drop q).take 4):=by
  rw[hbt]
  unfold bZ
  rw[hXl,List.append_assoc]
  simp
 have hbb:=km hAb (uO (b:=b) hb (q+4))
 rw[hiff]at hbb
 have hd4:(b.drop (k+n)).drop 4=b.drop (q+4):=by rw[List.drop_drop,hq]
 rw[hd4,show b.drop (k+n)=b.drop q by rw[hq]]
 generalize bZ ((b.drop k).take n)=A at*
 generalize (b.drop k).take n=X at*
 have htk:List.take (q+4) (aD b)=aD (b.take (q+4)):=by unfold aD;rw[List.map_take]
 have hdk:List.drop (q+4) (aD b)=aD (b.drop (q+4)):=by unfold aD;rw[List.map_drop]
 generalize b.take (q+4)=T at*
 suffices h:ag Tryz.prog 23 [.d (.list nn (aD b)),iA most] H (.ok (if dL (iK X)≠(b.drop q).take 4 then .bz [.d (.v (.slice none 0 0)),.d (.v (.slice none 0 0)),iA 5]else .bz [.d (.list false (aD X)),.d (.list false (aD (b.drop (q+4)))),iA 0])) H by
  by_cases h3:dL (iK X)≠(b.drop q).take 4
  ·rw[if_pos h3]at h⊢
   exact ag.bE h (.cons .nil (.cons .nil (.cons (.refl _) .nil)))
  ·rw[if_neg h3]at h⊢
   exact h
 generalize (b.drop q).take 4=F at*
 have hq5:q+4≤b.length:=by omega
 have hqb:k≤q∧q≤b.length:=by omega
 generalize q+4=q4 at*
 refine ag.aj (hint:=(fun _=>false)) Tryz.func23 (by kernel_rfl) rfl [4,5,6] (by kernel_rfl) (by decide) (by simp[Tryz.ntmps23]) ?_
 rw[Tryz.ntmps23]
 simp -implicitDefEqProofs only[↓reduceIte,go_sem,Nat.reduceLT,reduceCtorEq]
 refine ae.ok (hg _) ?_
 simp -implicitDefEqProofs only[↓reduceIte,go_sem,Nat.reduceLT,Nat.reduceEqDiff,reduceCtorEq,mneg,wm,h1f,ai,w1,w2,w3,h2f,w4,w5,aL,hx]
 refine⟨hqb.1,hqb.2,?_⟩
 refine ae.ok (hbk _) ?_
 simp -implicitDefEqProofs only[↓reduceIte,go_sem,Nat.reduceLT]
 refine aO K.mixed (by kernel_rfl) ?_
 simp -implicitDefEqProofs only[↓reduceIte,go_sem,Nat.reduceLT,Nat.reduceEqDiff,Int.reduceLE,Int.reduceToNat,reduceCtorEq,ai,hAl,aL,htk,dq,iv]
 refine⟨hq5,?_⟩
 rw[hbb]
 by_cases h3:dL (iK X)=F
 ·rw[if_neg (by simpa using h3)]
  simp -implicitDefEqProofs only[go_sem,h3]
  refine aO K.mixed (by kernel_rfl) ?_
  simp -implicitDefEqProofs only[↓reduceIte,go_sem,Nat.reduceLT,Nat.reduceEqDiff,reduceCtorEq,ai,hAl,aL,bQ _ _ (ai b),hdk]
  refine⟨hq5,?_⟩
  refine aw.aI ?_
  simp -implicitDefEqProofs only[↓reduceIte,go_sem,Nat.reduceLT,Nat.reduceEqDiff]
 ·rw[if_pos h3]
  simp -implicitDefEqProofs only[go_sem,h3]
  refine aw.aI ?_
  simp -implicitDefEqProofs only[↓reduceIte,go_sem,Nat.reduceLT,Nat.reduceEqDiff]
theorem Ie{v:aq}{k:Int}(hk:bJ k=true)(h:iC k v):v.Ok:=by
 obtain⟨h1,h2,h3⟩:=h
 rw[fD]at hk
 refine⟨⟨by omega,by omega⟩,h3,?_⟩
 have hs:v.s.toList=[]→v.s.size≤140737488351232:=fun h=>by rw[toList_inj (h.trans gl.symm)];decide
 by_cases c:v.kind=3
 ·have:=mi h1 c;omega
 ·unfold cA at h1
  by_cases c2:v.kind=2
  ·rw[if_pos c2]at h1
   simp only[Bool.and_eq_true,decide_eq_true_eq]at h1
   exact hs h1.2
  ·rw[if_neg c2,if_pos (by omega)]at h1
   exact hs (by simpa using h1)
theorem I1{s:Sg}(hb:cb s.body)(h:(dr s).2=0):∀v∈(dr s).1,v.Ok:=by
 have hgood:=fun l=>ve (b:=s.body) (n:=(s.aU.rows:Int)-(aC s.aA:Int)) (k:=s.kind) (w:=s.bf) (l:=l) hb
 unfold dr at*
 generalize gj s.body ((s.aU.rows:Int)-(aC s.aA:Int)) s.kind s.bf=q at*
 obtain⟨l,e⟩:=q
 simp only at h hgood⊢
 by_cases c:e≠0∨s.aA=[]
 ·rw[if_pos c]at h⊢
  simp only at h
  subst h
  obtain⟨g1,g2,g3,g4⟩:=hgood l rfl
  exact fun v hv=>Ie g1 (g2 v hv)
 ·rw[if_neg c]at h⊢
  obtain rfl:e=0:=by simpa using fun h=>c (.inl h)
  obtain⟨g1,g2,g3,g4⟩:=hgood l rfl
  unfold fl at h⊢
  split at h
  ·simp at h
  rename_i c1
  rw[if_neg c1]
  split at h
  ·simp at h
  rename_i c2
  rw[if_neg c2]
  intro v hv
  rcases mS hv with rfl|hv
  ·exact⟨⟨by decide,by decide⟩,⟨by decide,by decide⟩,by decide⟩
  ·exact Ie g1 (g2 v hv)
theorem DY{A B:List Nat}(hA:A.length<18446744073709551616)(hB:B.length<18446744073709551616):bZ A=bZ B↔A=B:=by
 refine⟨fun h=>?_,fun h=>by rw[h]⟩
 unfold bZ at h
 rw[List.append_assoc,List.append_assoc]at h
 have h1:=gN A.length hA (A++dL (iK A))
 have h2:=gN B.length hB (B++dL (iK B))
 rw[h,h2]at h1
 have h3:A.length=B.length:=((Prod.mk.inj h1).1).symm
 rw[h3]at h
 have h4:=List.append_cancel_left h
 have h5:=congrArg (List.take A.length) h4
 rwa[List.take_left,h3,List.take_left]at h5
noncomputable def eM(x:List Nat):Sg×Int:=
 if(cN x).2.2≠0 then(jI,(cN x).2.2)
 else if(cQ (cN x).1 (cN x).2.1).2.2≠0 then(jI,(cQ (cN x).1 (cN x).2.1).2.2)
 else Ck x (cE (cQ (cN x).1 (cN x).2.1).1 (cQ (cN x).1 (cN x).2.1).2.1)
where Ck (x:List Nat) (s:Sg):Sg×Int:=
 if(dr s).2≠0 then(jI,4)
 else if(ee (dr s).1 s.kind s.bf).2≠0∨eK s.kind.toNat s.bf.toNat (ee (dr s).1 s.kind s.bf).1≠x then(jI,4)
 else((ee (dr s).1 s.kind s.bf).1,0)
theorem ll(x:List Nat)(hx:cb x)(hl:x.length≤1048576):
  ((eM x).2≠0→(eM x).1=jI)∧(∀H,ag Tryz.prog 24 [.d (.list false (aD x))] H (.ok (.agg (pL ((eM x).1,[],(eM x).2)))) H)∧
   (∀b rest,cu b 1048576=(x,rest,0)→dU b=if(eM x).2≠0 then(jI,[],(eM x).2)else((eM x).1,rest,0))∧cb (eM x).1.body∧(eM x).1.aA.length≤4096:=by
 obtain⟨q,hq⟩:∃q,q=fz 4 x []:=⟨_,rfl⟩
 have hhp:cN x=if q.2.2≠0 then(jI,[],q.2.2)else if dj q.1=false then(jI,[],4)else(ng q.1,q.2.1,0):=by rw[hq];rfl
 have bad:∀e:Int,e≠0→eM x=(jI,e)→(∀b rest,cu b 1048576=(x,rest,0)→dU b=(jI,[],e))→(∀H,ag Tryz.prog 24 [.d (.list false (aD x))] H (.ok (.agg (fR e))) H)→
   ((eM x).2≠0→(eM x).1=jI)∧(∀H,ag Tryz.prog 24 [.d (.list false (aD x))] H (.ok (.agg (pL ((eM x).1,[],(eM x).2)))) H)∧(∀b rest,cu b 1048576=(x,rest,0)→dU b=if(eM x).2≠0 then(jI,[],(eM x).2)else((eM x).1,rest,0))∧cb (eM x).1.body∧(eM x).1.aA.length≤4096:=by
  intro e he hr hs hd
  rw[hr]
  exact⟨fun _=>rfl,fun H=>(hd H).Ey (r6 e),fun b rest h=>by rw[if_pos he];exact hs b rest h,fE,Nat.zero_le _⟩
 have hso:∀b rest,cu b 1048576=(x,rest,0)→dU b=if(cN x).2.2≠0 then(jI,[],(cN x).2.2)else if(cQ (cN x).1 (cN x).2.1).2.2≠0 then(jI,[],(cQ (cN x).1 (cN x).2.1).2.2)else dU.pt x rest (cE (cQ (cN x).1 (cN x).2.1).1 (cQ (cN x).1 (cN x).2.1).2.1):=by
  intro b rest h
  unfold dU
  rw[h]
  rfl
 have hw0:=fun gs ge gr V e3 t e4 B=>Bh x q hq hx (by omega) gs ge gr V e3 t e4 B
 by_cases c1:q.2.2≠0
 ·have hh:cN x=(jI,[],q.2.2):=by rw[hhp,if_pos c1]
  refine bad q.2.2 c1 (by unfold eM;rw[hh,if_pos c1]) (fun b rest h=>by rw[hso b rest h,hh,if_pos c1]) fun H=>?_
  have:=hw0 jI 0 [] [] 0 jI 0 [] (fun h=>absurd h c1) (fun h=>absurd h c1) (fun h=>absurd h c1) (fun h=>absurd h c1) H
  rwa[if_pos c1]at this
 have c1':q.2.2=0:=by simpa using c1
 rw[if_neg c1]at hhp
 by_cases c2:dj q.1=false
 ·have hh:cN x=(jI,[],4):=by rw[hhp,if_pos c2]
  have c2':¬dj q.1=true:=by rw[c2];simp
  refine bad 4 (by decide) (by unfold eM;rw[hh,if_pos (by decide)]) (fun b rest h=>by rw[hso b rest h,hh,if_pos (by decide)]) fun H=>?_
  have:=hw0 jI 0 [] [] 0 jI 0 [] (fun _ h=>absurd h c2') (fun _ h=>absurd h c2') (fun _ h=>absurd h c2') (fun _ h=>absurd h c2') H
  rwa[if_neg c1,if_pos c2]at this
 rw[if_neg c2]at hhp
 have c2':dj q.1=true:=by simpa using c2
 have hok:=x4 (b:=x) (by rw[hhp])
 obtain⟨kn,cn,zr,zn,hh1,k1,k2,k3,k4,htl⟩:=hok
 rw[hhp]at hh1 htl
 simp only at hh1 htl
 have hkn:q.1.getD 0 0=kn∧q.1.getD 1 0=cn∧q.1.getD 2 0=zr∧q.1.getD 3 0=zn:=by
  unfold ng at hh1
  simp only[Sg.mk.injEq,Zn.mk.injEq,Int.natCast_inj]at hh1
  exact⟨hh1.1,hh1.2.1,hh1.2.2.1.1,hh1.2.2.1.2.1⟩
 have hyb:∀c∈q.2.1,c<256:=htl.byte hx
 have hyl:=htl.len
 have hzd:=fun H=>wK kn cn zr zn q.2.1 k3 k4 hyb (by omega) H
 have hhz:ng q.1=jV kn cn zr zn:=hh1
 rw[hhp]at hso
 simp only at hso
 have hrd:eM x=if(cQ (ng q.1) q.2.1).2.2≠0 then(jI,(cQ (ng q.1) q.2.1).2.2)else eM.Ck x (cE (cQ (ng q.1) q.2.1).1 (cQ (ng q.1) q.2.1).2.1):=by
  unfold eM
  rw[hhp]
  rfl
 obtain⟨q1,q2,q3,q4⟩:=hkn
 rw[q1,q2,q3,q4]at hw0
 rw[hhz]at hso hrd
 have hzo:=Ak (jV kn cn zr zn) q.2.1 rfl
 unfold tc at hzd
 generalize cQ (jV kn cn zr zn) q.2.1=z at*
 obtain⟨s2,y2,e2⟩:=z
 simp only at hzd hso hrd hzo
 obtain⟨z1,z2,z3,z4,z5⟩:=hzo
 simp only[jV]at z1 z2 z3 z4
 by_cases c3:e2≠0
 ·rw[if_pos c3]at hrd hzd
  have hs:∀b rest,cu b 1048576=(x,rest,0)→dU b=(jI,[],e2):=fun b rest h=>by rw[hso b rest h,if_neg (by simp),if_pos c3]
  have:=fun H=>hw0 jI e2 [] [] 0 jI 0 [] (fun _ _=>hzd) (fun _ _ h=>absurd h c3) (fun _ _ h=>absurd h c3) (fun _ _ h=>absurd h c3) H
  simp only[if_neg c1,if_neg c2,if_pos c3]at this
  rw[hrd]
  exact⟨fun _=>rfl,this,fun b rest h=>by rw[if_pos c3];exact hs b rest h,fE,Nat.zero_le _⟩
 obtain rfl:e2=0:=by simpa using c3
 rw[if_neg c3]at hrd hzd
 obtain⟨S,hS⟩:∃S,S=cE s2 y2:=⟨_,rfl⟩
 have hgS:(⟨s2.kind,s2.bf,s2.aU,s2.aA,y2⟩:Sg)=S:=hS.symm
 rw[hgS]at hzd
 rw[←hS]at hrd hso
 have hSb:cb S.body:=by rw[hS];exact z5.byte hyb
 have hSl:S.body.length≤1048576:=by rw[hS];show y2.length≤_;have:=z5.len;omega
 have hSr:S.aU.rows≤4096:=by rw[hS];show s2.aU.rows≤_;omega
 have hSn:S.aA.length≤4096:=by rw[hS];show s2.aA.length≤_;omega
 have hSk:S.kind=(kn:Int):=by rw[hS];exact z1
 have hSc:S.bf=(cn:Int):=by rw[hS];exact z2
 have hv:=fun H=>wv S (by omega) (by omega) hSb (by omega) (by have:=sz S.body ((S.aU.rows:Int)-(aC S.aA:Int)) S.kind S.bf hSb;omega) H
 have hvo:=zC (s:=S) hSb hSn
 have hvk:=I1 (s:=S) hSb
 unfold eM.Ck at hrd
 rw[hSk,hSc,Int.toNat_natCast,Int.toNat_natCast]at hrd
 have hso2:∀b rest,cu b 1048576=(x,rest,0)→dU b=dU.pt x rest S:=fun b rest h=>by rw[hso b rest h,if_neg (by simp),if_neg c3]
 unfold dU.pt at hso2
 rw[hSk,hSc,Int.toNat_natCast,Int.toNat_natCast]at hso2
 generalize dr S=v at*
 obtain⟨V,e3⟩:=v
 simp only at hv hvo hvk hrd hso2
 by_cases c4:e3≠0
 ·rw[if_pos c4]at hrd
  refine bad 4 (by decide) hrd (fun b rest h=>by rw[hso2 b rest h,if_pos c4]) fun H=>?_
  have:=hw0 S 0 [] V e3 jI 0 [] (fun _ _=>hzd) (fun _ _ _=>hv) (fun _ _ _ h=>absurd h c4) (fun _ _ _ h=>absurd h c4) H
  rwa[if_neg c1,if_neg c2,if_neg c3,if_pos c4]at this
 obtain rfl:e3=0:=by simpa using c4
 obtain⟨o1,_,o3,o4⟩:=hvo rfl
 rw[hSc]at*
 rw[if_neg c4]at hrd
 have hmd:=fun H=>By V kn cn false (hvk rfl) (by omega) H
 have hmm:=px (l:=V) (k:=(kn:Int)) (w:=(cn:Int))
 generalize ee V (kn:Int) (cn:Int)=m at*
 obtain⟨t,e4⟩:=m
 simp only at hmd hmm hrd hso2
 have hpp:e4=0→cn≠0→cb (eK kn cn t)∧(eK kn cn t).length≤20000000∧∀H,ag Tryz.prog 55 [.agg t.cs] H (.ok (.d (.list false (aD (eK kn cn t))))) H:=by
  intro h4 hc
  have md:=hmm h4
  obtain⟨kn',cn',m1,m2,m3,m4,m5,m6,m7,m8,m9,_⟩:=md.bytes o4
  have hwh:bX V (kn:Int) (cn:Int)=(cn:Int):=if_neg (by omega)
  rw[hwh]at m4
  obtain rfl:kn'=kn:=by omega
  obtain rfl:cn'=cn:=by omega
  refine⟨m7,m8,fun H=>?_⟩
  have hzz:uk (bu V):=sw fun v hv hk=>⟨o4 v hv,(md.Il o4 v hv hk).1⟩
  have hnu:=gq V
  have hro:=gm V
  have hcl:=ef (bL V)
  have hnl:=dN V
  obtain⟨b1,b2⟩:=vW (w:=bX V (kn':Int) (cn':Int)) md.o7 fun v hv=>o4 v (kG hv)
  have hml:(bY V).length≤4096:=by have:=md.len;unfold bY;split;simp;omega
  have h44:=md.len
  exact tV t kn' cn' (by rw[md.eq]) (by rw[md.eq];exact hwh) (by omega) (by omega) (by rw[md.eq];simp only;omega) (by rw[md.eq];simp only;omega) (by rw[md.eq];simp only;omega) (by rw[md.eq];simp only;omega) (by rw[md.eq];exact hzz) H
 have hw1:=fun H=>hw0 S 0 [] V 0 t e4 (eK kn cn t) (fun _ _=>hzd) (fun _ _ _=>hv) (fun _ _ _ _=>hmd) (fun _ _ _ _ h4 hc=>⟨(hpp h4 hc).1,(hpp h4 hc).2.2⟩) H
 simp only[if_neg c1,if_neg c2,if_neg c3]at hw1
 have hc0:¬cn=0:=by omega
 by_cases c5:e4≠0
 ·rw[if_pos (.inl c5)]at hrd
  refine bad 4 (by decide) hrd (fun b rest h=>by rw[hso2 b rest h,if_neg c4,if_pos (.inl c5)]) fun H=>?_
  have:=hw1 H
  rwa[if_pos (.inl c5)]at this
 obtain rfl:e4=0:=by simpa using c5
 obtain⟨p1,p2,_⟩:=hpp rfl hc0
 have hbi:ku kn cn t=bZ x↔eK kn cn t=x:=DY (by omega) (by omega)
 by_cases c6:eK kn cn t≠x
 ·rw[if_pos (.inr c6)]at hrd
  refine bad 4 (by decide) hrd (fun b rest h=>by rw[hso2 b rest h,if_neg c4,if_pos (.inr fun h=>c6 (hbi.1 h))]) fun H=>?_
  have:=hw1 H
  rwa[if_pos (.inr (.inr c6))]at this
 have hno:¬((0:Int)≠0∨eK kn cn t≠x):=by rintro(h|h);exact h rfl;exact c6 h
 rw[if_neg hno]at hrd
 rw[hrd]
 refine⟨fun h=>absurd rfl h,fun H=>?_,fun b rest h=>?_,?_,?_⟩
 ·have:=hw1 H
  rw[if_neg (by rintro(h|h|h);exact h rfl;exact hc0 h;exact c6 h)]at this
  exact this.Ey (.agg (.cons (.refl _) (.cons (.refl _) (.cons (.refl _) (.cons (.refl _) (.cons (.refl _) (.cons (.refl _) (.cons (.refl _) (.cons (.refl _) (.cons (.refl _) (.cons (.refl _) (.cons (.refl _) (.cons (.refl _) (.cons .nil (.cons (.refl _) .nil)))))))))))))))
 ·rw[hso2 b rest h,if_neg c4,if_neg (by rintro(h|h);exact h rfl;exact h (hbi.2 (by simpa using c6))),if_neg (by simp)]
 ·have md:=hmm rfl
  rw[md.eq]
  exact(vW (w:=bX V (kn:Int) (cn:Int)) md.o7 fun v hv=>o4 v (kG hv)).1
 ·have md:=hmm rfl
  have hnl:=dN V
  rw[md.eq]
  have h44:=md.len
  show(bY V).length≤4096
  unfold bY
  split
  ·simp
  ·omega
theorem tz(b:List Nat)(hb:cb b)(hl:b.length≤140737488351232)(H:aa):
  ag Tryz.prog 9 [.d (.list false (aD b))] H (.ok (.agg (pL (dU b)))) H:=by
 have ho:=fun H=>A6 b false 1048576 (by omega) hb hl H
 obtain⟨ox,oxl,ot⟩:=su hb 1048576
 have hs:=(ll (cu b 1048576).1 ox oxl).2.2.1 b (cu b 1048576).2.1
 have hr:=(ll (cu b 1048576).1 ox oxl).2.1
 have hz:=(ll (cu b 1048576).1 ox oxl).1
 by_cases c1:(cu b 1048576).2.2≠0
 ·have e:dU b=(jI,[],(cu b 1048576).2.2):=if_pos c1
  rw[e]
  clear hs hr hz
  generalize cu b 1048576=o at*
  obtain⟨x,rest,e0⟩:=o
  simp only at ho c1⊢
  refine ag.Ey ?_ (r6 e0)
  refine ag.bj (hint:=fun _=>false) Tryz.func9 (by kernel_rfl) rfl [.cell 2 36] (by kernel_rfl) (by simp[Tryz.ntmps9]) ?_
  rw[Tryz.ntmps9]
  simp -implicitDefEqProofs only[↓reduceIte,go_sem,Nat.reduceLT,reduceCtorEq]
  refine ae.ok (ho _) ?_
  simp -implicitDefEqProofs only[↓reduceIte,go_sem,au,Nat.reduceAdd,Nat.reduceLT,Nat.reduceEqDiff,c1]
  refine aZ.ret ?_
  simp -implicitDefEqProofs only[↓reduceIte,go_sem,ah,Nat.reduceAdd,Nat.reduceLT,Nat.reduceLeDiff,Nat.reduceEqDiff,aJ,a8,fR,cP]
 have c1:(cu b 1048576).2.2=0:=by simpa using c1
 have hs:=hs (by rw[←c1])
 rw[hs]
 clear hs
 generalize cu b 1048576=o at*
 obtain⟨x,rest,e0⟩:=o
 simp only at ho c1 hr hz⊢
 subst c1
 generalize eM x=g at*
 obtain⟨S,e⟩:=g
 simp only at hr hz⊢
 by_cases c2:e≠0
 ·rw[if_pos c2]
  have hz:=hz c2
  subst hz
  have hr2:∀H,ag Tryz.prog 24 [.d (.list false (aD x))] H (.ok (.agg [iA 0,iA 0,iA (0:Nat),iA (0:Nat),iA 0,iA 0,sA cP,iA 0,iA 0,sA cP,.d (.list false (bF [])),.d (.list false (aD [])),.d (.list false (aD [])),iA e])) H:=hr
  have hg:pL (jI,[],e)=[iA 0,iA 0,iA (0:Nat),iA (0:Nat),iA 0,iA 0,sA cP,iA 0,iA 0,sA cP,.d (.list false (bF [])),.d (.list false (aD [])),.d (.list false (aD [])),iA e]:=rfl
  rw[hg]
  refine ag.bj (hint:=fun _=>false) Tryz.func9 (by kernel_rfl) rfl [.cell 2 36] (by kernel_rfl) (by simp[Tryz.ntmps9]) ?_
  rw[Tryz.ntmps9]
  simp -implicitDefEqProofs only[↓reduceIte,go_sem,Nat.reduceLT,reduceCtorEq]
  refine ae.ok (ho _) ?_
  simp -implicitDefEqProofs only[↓reduceIte,go_sem,Nat.reduceLT,Nat.reduceEqDiff]
  refine ae.ok (hr2 _) ?_
  simp -implicitDefEqProofs only[↓reduceIte,go_sem,ah,au,Nat.reduceAdd,Nat.reduceLT,Nat.reduceEqDiff,c2]
  refine aZ.ret ?_
  simp -implicitDefEqProofs only[↓reduceIte,go_sem,ah,Nat.reduceAdd,Nat.reduceLT,Nat.reduceLeDiff,Nat.reduceEqDiff,aJ,a8]
 ·rw[if_neg c2]
  obtain rfl:e=0:=by simpa using c2
  obtain⟨sk,sc,⟨zr,zn,mn,mx⟩,ns,bd⟩:=S
  simp only[pL,Sg.cs,List.cons_append,List.nil_append]at hr⊢
  refine ag.bj (hint:=fun _=>false) Tryz.func9 (by kernel_rfl) rfl [.cell 2 36] (by kernel_rfl) (by simp[Tryz.ntmps9]) ?_
  rw[Tryz.ntmps9]
  simp -implicitDefEqProofs only[↓reduceIte,go_sem,Nat.reduceLT,reduceCtorEq]
  refine ae.ok (ho _) ?_
  simp -implicitDefEqProofs only[↓reduceIte,go_sem,Nat.reduceLT,Nat.reduceEqDiff]
  refine ae.ok (hr _) ?_
  simp -implicitDefEqProofs only[↓reduceIte,go_sem,ah,au,Nat.reduceAdd,Nat.reduceLT,Nat.reduceLeDiff,Nat.reduceEqDiff]
  refine aZ.ret ?_
  simp -implicitDefEqProofs only[↓reduceIte,go_sem,ah,Nat.reduceAdd,Nat.reduceLT,Nat.reduceLeDiff,Nat.reduceEqDiff,aJ,a8]
theorem sD{b:List Nat}(hb:cb b):cb (dU b).1.body∧(dU b).1.aA.length≤4096∧cb (dU b).2.1:=by
 obtain⟨ox,oxl,ot⟩:=su hb 1048576
 obtain⟨_,_,h3,h4,h5⟩:=ll (cu b 1048576).1 ox oxl
 by_cases c1:(cu b 1048576).2.2≠0
 ·rw[show dU b=(jI,[],(cu b 1048576).2.2)from if_pos c1]
  exact⟨fE,Nat.zero_le _,fE⟩
 have c1:(cu b 1048576).2.2=0:=by simpa using c1
 rw[h3 b (cu b 1048576).2.1 (by rw[←c1])]
 split
 ·exact⟨fE,Nat.zero_le _,fE⟩
 ·exact⟨h4,h5,ot.byte hb⟩
def b5:List aq:=[cG 5,cG 5,cG 5,cG 5]
theorem AP:a7 aM b5=[cG 5]:=by
 have vv:=aG.self (cG 5)
 simp[b5,a7,St.ct,St.ins,iR,vv,St.bC,St.nB]
theorem MC:fj (cG 5).i=10:=by decide
theorem r8:cW (cG 5)=[10]:=by
 unfold cW
 rw[if_pos (show(cG 5).kind=1 from rfl),MC,cY (by decide)]
theorem yn:∀v∈b5,v=cG 5:=by simp[b5]
theorem dZ:aS b5 1=0:=CH (fun v hv=>⟨5,yn v hv⟩) (by decide)
theorem E6:cZ b5=[(4,cG 5)]:=by decide+kernel
theorem yI:eC (cZ b5)=[4,10]:=by
 rw[E6]
 simp only[eC,kd,List.flatMap_cons,List.flatMap_nil,List.append_nil,r8]
 rw[cY (by decide)]
 rfl
theorem IX:aY b5=[10,10,10,10]:=by
 simp only[aY,b5,List.flatMap_cons,List.flatMap_nil,List.append_nil,r8]
 rfl
theorem EZ:fY b5=[1,10]:=by
 unfold fY
 rw[AP]
 have h3:cF (b5.map (eL b5)) (dJ [cG 5].length)=[]:=by
  have:dJ [cG 5].length=0:=by decide
  rw[this]
  unfold cF
  apply List.eq_nil_of_length_eq_zero
  rw[cH,dW]
  simp
 rw[h3]
 simp only[aY,List.flatMap_cons,List.flatMap_nil,List.append_nil,r8,List.length_singleton]
 rw[cY (by decide)]
 rfl
theorem BX:j4 b5=[10,0]:=by
 unfold j4
 rw[if_pos ⟨dZ,by decide⟩]
 unfold iN
 have h1:bT b5=[0,0,0]:=by decide+kernel
 rw[h1]
 have h2:cw [0,0,0]=0:=by decide
 have h3:cF [0,0,0] 0=[]:=by decide+kernel
 simp only[b5]
 rw[h2,h3,MC,cY (by decide),cY (by decide)]
 rfl
theorem uJ:aE b5=b5:=by decide+kernel
theorem FR:tx b5 1=2:=by
 have b1:bU b5 1 1=([10,10,10,10],0):=by
  unfold bU;rw[if_pos rfl,dZ,show iI b5 1=aY b5 from if_pos dZ,IX]
 have b2:bU b5 1 2=([4,10],0):=by
  unfold bU;rw[if_neg (by decide),if_pos rfl,dZ,show qQ b5 1=eC (cZ b5)from if_pos dZ,yI]
 have b3:bU b5 1 3=([1,10],0):=by
  unfold bU;rw[if_neg (by decide),if_neg (by decide),if_pos rfl,dZ,show ju b5 1=fY b5 from if_pos dZ,EZ]
 have b4:bU b5 1 4=([10,0],0):=by
  unfold bU;rw[if_neg (by decide),if_neg (by decide),if_neg (by decide),if_pos ⟨rfl,rfl⟩,dZ,BX]
 have s0:cX b5 1 0=(-1,0):=rfl
 have st:∀n,cX b5 1 (n+1)=jH b5 1 (cX b5 1 n) ((n:Int)+1):=fun n=>rfl
 have s1:cX b5 1 1=(4,1):=by rw[st 0,s0];unfold jH;simp[b1]
 have s2:cX b5 1 2=(2,2):=by rw[st 1,s1];unfold jH;simp[b2]
 have s3:cX b5 1 3=(2,2):=by rw[st 2,s2];unfold jH;simp[b3]
 have s4:cX b5 1 4=(2,2):=by rw[st 3,s3];unfold jH;simp[b4]
 unfold tx
 rw[s4]
theorem pJ:ee b5 1 0=(⟨1,2,bu b5,[],[4,10]⟩,0):=by
 have hw:bX b5 1 0=2:=by unfold bX;rw[if_pos rfl,uJ,FR]
 have b2:bU b5 1 2=([4,10],0):=by
  unfold bU;rw[if_neg (by decide),if_pos rfl,dZ,show qQ b5 1=eC (cZ b5)from if_pos dZ,yI]
 unfold ee bY
 rw[uJ,hw,dZ,b2,if_neg (by decide),if_neg (by decide),if_neg (by decide),if_pos rfl]
theorem p5:Made b5 1 0 ⟨1,2,bu b5,[],[4,10]⟩:=by
 have h:=px (l:=b5) (k:=1) (w:=0) (by rw[pJ])
 rwa[pJ]at h
theorem rj:∀v∈b5,eJ v.i:=fun v hv=>by rw[yn v hv];exact⟨by decide,by decide⟩
theorem oN(H:aa):ag Tryz.prog 7 [] H (.ok (bA true)) H:=by
 have hm:=fun H=>uZ b5 1 0 rj (by decide) H
 rw[pJ]at hm
 obtain⟨kn,cn,h1,_,_,h4,_,_,h7,h8,_,hB⟩:=p5.bytes rj
 have hil:=p5.Nu rj h1 h4
 have hbk:=G8 p5 rj h1 h4 (by simp only[List.length_cons,List.length_nil]at hil;omega) [9]
 have hbl:(ku kn cn ⟨1,2,bu b5,[],[4,10]⟩).length≤1000000:=by
  have:=bD 10 (eK kn cn ⟨1,2,bu b5,[],[4,10]⟩).length (by omega)
  simp only[List.length_cons,List.length_nil]at hil
  unfold ku bZ
  simp only[List.length_append,dL,List.length_cons,List.length_nil]
  omega
 have hby:=uK h7 h8
 have hof:=fun H=>nG (ku kn cn ⟨1,2,bu b5,[],[4,10]⟩++[9]) (hby.app (by intro c hc;simp at hc;omega)) (by rw[List.length_append];simp;omega) H
 rw[hbk]at hof
 have hro:(bu b5).rows=4:=gm b5
 have hin:b5.map aq.enc=[(cG 5).enc,(cG 5).enc,(cG 5).enc,(cG 5).enc]:=rfl
 rw[hin]at hm
 generalize (bp (eK kn cn ⟨1,2,bu b5,[],[4,10]⟩).length).length+2=ver at*
 generalize ku kn cn ⟨1,2,bu b5,[],[4,10]⟩=B at*
 generalize bu b5=z at*
 obtain⟨zr,zn,zmn,zmx⟩:=z
 simp only at hro
 subst hro
 simp only[Sg.cs]at hm hB hof
 have e1:(gP [9]).toList=[9]:=ji [9]
 have e2:(⟨#[9]⟩:ByteArray).toList=[9]:=by rw[ByteArray.toList_eq]
 have e:((gP [9]).toList==(⟨#[9]⟩:ByteArray).toList)=true:=by rw[e1,e2];decide
 have hB2:∀o1 o2:aT,_:=fun o1 o2=>hB (H++[o1,o2])
 simp only[List.length_append,List.append_assoc,List.cons_append,List.nil_append,List.length_cons,List.length_nil,Nat.zero_add,Nat.add_assoc,Nat.reduceAdd]at hB2
 refine ag.aj (hint:=(fun _=>false)) Tryz.func7 (by kernel_rfl) rfl [0] (by kernel_rfl) (by decide) (by simp[Tryz.ntmps7]) ?_
 rw[Tryz.ntmps7]
 simp -implicitDefEqProofs only[↓reduceIte,go_sem,ah,au,Nat.reduceAdd,Nat.reduceMul,Nat.reduceLT,Nat.reduceLeDiff,Nat.reduceEqDiff]
 refine ae.sub (.cons (.nn _) (.cons (.refl _) (.cons (.refl _) .nil))) (hm _) ?_
 simp -implicitDefEqProofs only[↓reduceIte,go_sem,ah,au,Nat.reduceAdd,Nat.reduceLT,Nat.reduceEqDiff]
 refine ae.ok (hB2 _ _) ?_
 simp -implicitDefEqProofs only[↓reduceIte,go_sem,Nat.reduceAdd,Nat.reduceLT,Nat.reduceLeDiff,Nat.reduceEqDiff,ai]
 refine⟨by omega,by omega,?_⟩
 have e9:aD B++[[D.v (.int .u8 9)]]=aD (B++[9]):=by rw[←dh];rfl
 rw[e9]
 refine ae.sx [] (e:=5) (k:=1) (ver:=ver+1) (es:=aD (B++[9])) (by simp) (by rw[List.drop_zero,List.take_of_length_le (by rw[ai];simp)];exact hof _) ?_
 have b9:aD [4,10]=[[D.v (.int .u8 4)],[D.v (.int .u8 10)]]:=rfl
 simp -implicitDefEqProofs only[↓reduceIte,go_sem,ah,au,Nat.reduceAdd,Nat.reduceLT,Nat.reduceLeDiff,Nat.reduceEqDiff,dq,e,List.length_cons,List.length_nil,b9]
 refine aw.ret ?_
 simp -implicitDefEqProofs only[↓reduceIte,go_sem,Nat.reduceLT]
def xP(r n k i:Int)(s:ByteArray)(l j:Int)(t:ByteArray)(r' n' k' i':Int)(s':ByteArray)(l' j':Int)(t':ByteArray):Bool:=(r==r')&&((n==n')&&(lC k i s k' i' s'&&(lC l j t l' j' t'&&true)))
theorem Jw(r n k i:Int)(s:ByteArray)(l j:Int)(t:ByteArray)(r' n' k' i':Int)(s':ByteArray)(l' j':Int)(t':ByteArray):
  cy Tryz.prog .eql 27 (.agg #[.int .i64 r,.int .i64 n,.int .i64 k,.int .i64 i,.string s,.int .i64 l,.int .i64 j,.string t]) (.agg #[.int .i64 r',.int .i64 n',.int .i64 k',.int .i64 i',.string s',.int .i64 l',.int .i64 j',.string t']) (.bool (xP r n k i s l j t r' n' k' i' s' l' j' t'))∧
  cy Tryz.prog .neq 27 (.agg #[.int .i64 r,.int .i64 n,.int .i64 k,.int .i64 i,.string s,.int .i64 l,.int .i64 j,.string t]) (.agg #[.int .i64 r',.int .i64 n',.int .i64 k',.int .i64 i',.string s',.int .i64 l',.int .i64 j',.string t']) (.bool !(xP r n k i s l j t r' n' k' i' s' l' j' t')):=
 cy.Oy (by kernel_rfl) (by kernel_rfl) (by kernel_rfl) (fs:=[(true,3,0),(true,3,1),(true,25,2),(true,25,5)]) (by kernel_rfl) fun w=>
  rf K.ML K.Iq rfl rfl (rf K.ML K.Iq rfl rfl (sL K.Hq K.Kz (by kernel_rfl) (by kernel_rfl) (by kernel_rfl) (wW w 9997 k i s k' i' s')
   (sL K.Hq K.Kz (by kernel_rfl) (by kernel_rfl) (by kernel_rfl) (wW w 9997 l j t l' j' t') Dc)))
theorem zU(r n k i:Int)(s:ByteArray)(l j:Int)(t:ByteArray)(r' n' k' i':Int)(s':ByteArray)(l' j':Int)(t':ByteArray)(K:Value→Prop):dE Tryz.prog .eql 27 (.agg #[.int .i64 r,.int .i64 n,.int .i64 k,.int .i64 i,.string s,.int .i64 l,.int .i64 j,.string t]) (.agg #[.int .i64 r',.int .i64 n',.int .i64 k',.int .i64 i',.string s',.int .i64 l',.int .i64 j',.string t']) K=K (.bool (xP r n k i s l j t r' n' k' i' s' l' j' t')):=nV (Jw ..).1 K
theorem Gl(y z:Zn):xP y.rows y.aA y.mn.kind y.mn.i y.mn.s y.mx.kind y.mx.i y.mx.s z.rows z.aA z.mn.kind z.mn.i z.mn.s z.mx.kind z.mx.i z.mx.s=decide (y=z):=by
 cases y with|mk a b c d=>
 cases z with|mk a' b' c' d'=>
 simp only[xP,fm]
 rw[Bool.eq_iff_iff]
 simp[Int.natCast_inj]
attribute [go_sem] zU
theorem zK(l m:List Bool)(n1 n2:Bool)(H:aa)(hl:l.length≤1000000000):
  ag Tryz.prog 27 [.d (.list n1 (bF l)),.d (.list n2 (bF m))] H (.ok (bA (decide (l=m)))) H:=by
 have bl:∀l:List Bool,(bF l).length=l.length:=fun l=>by simp[bF]
 have bg:∀(l:List Bool) k (h:k<l.length),(bF l)[k]?=some [.v (.bool l[k])]:=fun l k h=>by simp[bF,h]
 refine ag.aj (hint:=(fun _=>false)) Tryz.func27 (by kernel_rfl) rfl [4] (by kernel_rfl) (by decide) (by simp[Tryz.ntmps27]) ?_
 rw[Tryz.ntmps27]
 simp -implicitDefEqProofs only[↓reduceIte,go_sem,Nat.reduceLT,Nat.reduceEqDiff,reduceCtorEq,bl]
 by_cases hlm:l.length=m.length
 ·refine eQ (by simp -implicitDefEqProofs only[go_sem,hlm]) ?_
  simp -implicitDefEqProofs only[go_sem]
  refine aP (fun k s H'=>H'=H∧l.take k=m.take k∧s 0= .d (.list n1 (bF l))∧s 1= .d (.list n2 (bF m))∧s 5=iA k) l.length (by omega) (ay.refl _ _) ?_ ?_ ?_
  ·simp -implicitDefEqProofs only[↓reduceIte,go_sem,Nat.reduceLT,Nat.reduceEqDiff,reduceCtorEq,List.take_zero]
  ·rintro k s H' hk hw ⟨rfl,hp,h0,h1,h5⟩
   have hx:=bg l k hk
   have hy:=bg m k (by omega)
   have e1:=List.take_succ_eq_append_getElem hk
   have e2:=List.take_succ_eq_append_getElem (show k<m.length by omega)
   have e3:∀(g:l=m),l[k]=m[k]'(by omega):=by intro g;subst g;rfl
   generalize l[k]=x at hx e1 e3
   generalize m[k]'(by omega)=y at hy e2 e3
   simp -implicitDefEqProofs only[↓reduceIte,go_sem,Nat.reduceLT,Nat.reduceEqDiff,reduceCtorEq,h0,h5,hk,bl]
   refine aO K.mixed (by kernel_rfl) ?_
   simp -implicitDefEqProofs only[↓reduceIte,go_sem,Nat.reduceLT,Nat.reduceEqDiff,reduceCtorEq,h0,h1,h5,hx,hy]
   by_cases hxy:x=y
   ·refine eQ (by simp -implicitDefEqProofs only[go_sem,hxy,bne_self_eq_false]) ?_
    simp -implicitDefEqProofs only[↓reduceIte,go_sem,Nat.reduceLT,Nat.reduceEqDiff,h5]
    refine c9.same ⟨rfl,by rw[e1,e2,hp,hxy],?_⟩
    simp -implicitDefEqProofs only[↓reduceIte,go_sem,Nat.reduceLT,Nat.reduceEqDiff,reduceCtorEq,h0,h1,hw]
   ·refine fc (by simp -implicitDefEqProofs only[go_sem,show(x !=y)=true from bne_iff_ne.2 hxy]) ?_
    simp -implicitDefEqProofs only[go_sem]
    refine aw.aI ?_
    have:¬l=m:=fun g=>hxy (e3 g)
    simp -implicitDefEqProofs only[↓reduceIte,go_sem,Nat.reduceLT,this,decide_false]
  ·rintro s H' ⟨rfl,hp,h0,h1,h5⟩
   rw[List.take_length,hlm,List.take_length]at hp
   simp -implicitDefEqProofs only[↓reduceIte,go_sem,Nat.reduceLT,Nat.reduceEqDiff,reduceCtorEq,h0,h5,bl]
   refine aw.aI ?_
   simp -implicitDefEqProofs only[↓reduceIte,go_sem,Nat.reduceLT,hp]
 ·refine fc (by simp -implicitDefEqProofs only[go_sem,show((l.length:Int)=(m.length:Int))=False from eq_false (by omega)]) ?_
  simp -implicitDefEqProofs only[go_sem]
  refine aw.aI ?_
  have:¬l=m:=fun g=>hlm (by rw[g])
  simp -implicitDefEqProofs only[↓reduceIte,go_sem,Nat.reduceLT,this,decide_false]
theorem qy(s:Sg)(H:aa):ag Tryz.prog 12 [.agg s.cs] H (.ok (.agg s.cs)) H:=by
 refine ag.bj (hint:=fun _=>false) Tryz.func12 (by kernel_rfl) rfl [.cell 2 34] (by kernel_rfl) (by simp[Tryz.ntmps12]) ?_
 rw[Tryz.ntmps12]
 simp -implicitDefEqProofs only[↓reduceIte,go_sem,ah,au,Nat.reduceAdd,Nat.reduceLT,Nat.reduceLeDiff,Nat.reduceEqDiff,Sg.cs]
 refine aZ.ret ?_
 simp -implicitDefEqProofs only[↓reduceIte,go_sem,ah,Nat.reduceAdd,Nat.reduceLT,Nat.reduceLeDiff,Nat.reduceEqDiff,aJ,a8]
theorem qc(a b:Sg)(H:aa)(hl:a.aA.length≤1000000000)(ba:cb a.body)(bb:cb b.body):ag Tryz.prog 11 [.agg a.cs,.agg b.cs] H (.ok (bA (decide (a=b)))) H:=by
 have hs:=fun H=>zK a.aA b.aA false false H hl
 have hd:=km ba bb
 have hz:=Gl a.aU b.aU
 have hab:a=b↔a.kind=b.kind∧a.bf=b.bf∧a.aU=b.aU∧a.aA=b.aA∧a.body=b.body:=by
  cases a;cases b;simp
 have hab:decide (a=b)=(decide (a.kind=b.kind)&&decide (a.bf=b.bf)&&decide (a.aU=b.aU)&&decide (a.aA=b.aA)&&decide (a.body=b.body)):=by
  rw[Bool.eq_iff_iff]
  simp[hab,and_assoc]
 rw[hab]
 clear hab
 obtain⟨ak,ac,⟨ar,an,⟨k1,i1,s1⟩,⟨k2,i2,s2⟩⟩,al,ab⟩:=a
 obtain⟨bk,bc,⟨br,bn,⟨k3,i3,s3⟩,⟨k4,i4,s4⟩⟩,bl,bd⟩:=b
 simp only at*
 have fin:∀q:Bool,q=(decide (ak=bk)&&decide (ac=bc)&&decide (Zn.mk ar an ⟨k1,i1,s1⟩ ⟨k2,i2,s2⟩=Zn.mk br bn ⟨k3,i3,s3⟩ ⟨k4,i4,s4⟩)&&decide (al=bl)&&decide (ab=bd))→ag Tryz.prog 11 [.agg (Sg.cs ⟨ak,ac,⟨ar,an,⟨k1,i1,s1⟩,⟨k2,i2,s2⟩⟩,al,ab⟩),.agg (Sg.cs ⟨bk,bc,⟨br,bn,⟨k3,i3,s3⟩,⟨k4,i4,s4⟩⟩,bl,bd⟩)] H (.ok (bA q)) H:=by
  intro q hq
  generalize decide (al=bl)=q4 at*
  generalize decide (ab=bd)=q5 at*
  generalize decide (Zn.mk ar an ⟨k1,i1,s1⟩ ⟨k2,i2,s2⟩=Zn.mk br bn ⟨k3,i3,s3⟩ ⟨k4,i4,s4⟩)=q3 at*
  refine ag.aj (hint:=(fun _=>false)) Tryz.func11 (by kernel_rfl) rfl [4] (by kernel_rfl) (by decide) (by simp[Tryz.ntmps11]) ?_
  rw[Tryz.ntmps11]
  by_cases h1:ak=bk
  ·by_cases h2:ac=bc
   ·cases q3
    ·simp -implicitDefEqProofs only[↓reduceIte,go_sem,ah,Nat.reduceAdd,Nat.reduceLT,Nat.reduceLeDiff,Nat.reduceEqDiff,reduceCtorEq,Sg.cs,h1,h2,hz]
     refine aw.ret ?_
     simp -implicitDefEqProofs only[↓reduceIte,go_sem,Nat.reduceLT,hq,h1,h2,Bool.and_false,Bool.false_and]
    ·simp -implicitDefEqProofs only[↓reduceIte,go_sem,ah,Nat.reduceAdd,Nat.reduceLT,Nat.reduceLeDiff,Nat.reduceEqDiff,Sg.cs,h1,h2,hz]
     refine ae.ok (hs _) ?_
     cases q4
     ·simp -implicitDefEqProofs only[↓reduceIte,go_sem,Nat.reduceLT,Nat.reduceEqDiff,reduceCtorEq]
      refine aw.ret ?_
      simp -implicitDefEqProofs only[↓reduceIte,go_sem,Nat.reduceLT,hq,h1,h2,Bool.and_false,Bool.false_and]
     ·simp -implicitDefEqProofs only[↓reduceIte,go_sem,ah,Nat.reduceAdd,Nat.reduceLT,Nat.reduceEqDiff,dq,iv,hd]
      refine aw.ret ?_
      simp -implicitDefEqProofs only[↓reduceIte,go_sem,Nat.reduceLT,hq,h1,h2,decide_true,Bool.true_and]
   ·simp -implicitDefEqProofs only[↓reduceIte,go_sem,ah,Nat.reduceAdd,Nat.reduceLT,Nat.reduceLeDiff,Nat.reduceEqDiff,reduceCtorEq,Sg.cs,h1,h2]
    refine aw.ret ?_
    simp -implicitDefEqProofs only[↓reduceIte,go_sem,Nat.reduceLT,hq,h2,decide_false,Bool.and_false,Bool.false_and]
  ·simp -implicitDefEqProofs only[↓reduceIte,go_sem,ah,Nat.reduceAdd,Nat.reduceLT,Nat.reduceLeDiff,Nat.reduceEqDiff,reduceCtorEq,Sg.cs,h1]
   refine aw.ret ?_
   simp -implicitDefEqProofs only[↓reduceIte,go_sem,Nat.reduceLT,hq,h1,decide_false,Bool.false_and]
 exact fin _ rfl
theorem uh(b:List Nat)(hb:∀c∈b,c<256)(hl:b.length≤140737488351232)(H:aa):
  ag Tryz.prog 3 [.d (.list false (aD b))] H (.ok (bA true)) H:=by
 by_cases h5:5000<b.length
 ·skip
  refine ag.aj (hint:=(fun _=>false)) Tryz.func3 (by kernel_rfl) rfl [2] (by kernel_rfl) (by decide) (by simp[Tryz.ntmps3]) ?_
  rw[Tryz.ntmps3]
  simp -implicitDefEqProofs only[go_sem]
  refine ae.ok (oN _) ?_
  simp -implicitDefEqProofs only[↓reduceIte,go_sem,Nat.reduceLT,Nat.reduceEqDiff,reduceCtorEq,ai,show((5000:Int)<(b.length:Int))=True from eq_true (by omega)]
  refine aw.aI ?_
  simp -implicitDefEqProofs only[↓reduceIte,go_sem,Nat.reduceLT]
 have h5f:((5000:Int)<(b.length:Int))=False:=eq_false (by omega)
 have hbk:=fun H=>qg b false hb (by omega) H
 have hCb:cb (bZ b):=((dH (by omega)).app hb).app (oM _)
 have hCl:(bZ b).length≤6000:=by
  have:=bD 10 b.length (by omega)
  unfold bZ
  simp only[List.length_append,dL,List.length_cons,List.length_nil]
  omega
 have o1:=fun H=>nG b hb (by omega) H
 have o2:=fun H=>tz b hb (by omega) H
 have o3:=fun H=>nG (bZ b) hCb (by omega) H
 have o4:=fun H=>tz (bZ b) hCb (by omega) H
 obtain⟨g1,g2,g3⟩:=sD (b:=b) hb
 obtain⟨g4,g5,g6⟩:=sD hCb
 have r1:=fun H=>qy (dU b).1 H
 have r2:=fun H=>qy (dU (bZ b)).1 H
 have s1:=fun H=>qc (dU b).1 (dU b).1 H (by omega) g1 g1
 have s2:=fun H=>qc (dU (bZ b)).1 (dU (bZ b)).1 H (by omega) g4 g4
 rw[decide_eq_true rfl]at s1 s2
 have e1:=km g3 g3
 have e2:=km g6 g6
 rw[decide_eq_true rfl]at e1 e2
 generalize dU b=p at*
 obtain⟨⟨pk,pw,⟨pr,pn,p3,p4⟩,pns,pb⟩,pr2,pe⟩:=p
 generalize dU (bZ b)=q at*
 obtain⟨⟨qk,qw,⟨qr,qn,q3,q4⟩,qns,qb⟩,qr2,qe⟩:=q
 simp only[pL,Sg.cs,List.cons_append,List.nil_append]at o1 o2 o3 o4 r1 r2 s1 s2 e1 e2
 generalize bZ b=C at*
 clear g1 g2 g3 g4 g5 g6
 refine ag.aj (hint:=(fun _=>false)) Tryz.func3 (by kernel_rfl) rfl [2] (by kernel_rfl) (by decide) (by simp[Tryz.ntmps3]) ?_
 rw[Tryz.ntmps3]
 simp -implicitDefEqProofs only[go_sem]
 refine ae.ok (oN _) ?_
 simp -implicitDefEqProofs only[↓reduceIte,go_sem,Nat.reduceLT,reduceCtorEq,ai,h5f]
 refine ae.ok (o1 _) ?_
 simp -implicitDefEqProofs only[↓reduceIte,go_sem,au,Nat.reduceAdd,Nat.reduceLT,Nat.reduceEqDiff,reduceCtorEq]
 refine ae.ok (o2 _) ?_
 simp -implicitDefEqProofs only[↓reduceIte,go_sem,au,Nat.reduceAdd,Nat.reduceLT,Nat.reduceEqDiff,reduceCtorEq]
 refine ae.ok (hbk _) ?_
 simp -implicitDefEqProofs only[↓reduceIte,go_sem,Nat.reduceLT]
 refine ae.ok (o3 _) ?_
 simp -implicitDefEqProofs only[↓reduceIte,go_sem,au,Nat.reduceAdd,Nat.reduceLT,Nat.reduceEqDiff,reduceCtorEq]
 refine ae.ok (hbk _) ?_
 simp -implicitDefEqProofs only[↓reduceIte,go_sem,Nat.reduceLT]
 refine ae.ok (o4 _) ?_
 simp -implicitDefEqProofs only[↓reduceIte,go_sem,au,Nat.reduceAdd,Nat.reduceLT,Nat.reduceEqDiff]
 refine aO K.mixed (by kernel_rfl) ?_
 simp -implicitDefEqProofs only[↓reduceIte,go_sem,ah,Nat.reduceAdd,Nat.reduceLT,Nat.reduceEqDiff]
 refine ae.ok (r1 _) ?_
 simp -implicitDefEqProofs only[↓reduceIte,go_sem,ah,Nat.reduceAdd,Nat.reduceLT,Nat.reduceLeDiff,Nat.reduceEqDiff]
 refine ae.ok (s1 _) ?_
 simp -implicitDefEqProofs only[↓reduceIte,go_sem,Nat.reduceLT]
 refine aO K.mixed (by kernel_rfl) ?_
 simp -implicitDefEqProofs only[↓reduceIte,go_sem,ah,Nat.reduceAdd,Nat.reduceLT,Nat.reduceEqDiff]
 refine ae.ok (r2 _) ?_
 simp -implicitDefEqProofs only[↓reduceIte,go_sem,ah,Nat.reduceAdd,Nat.reduceLT,Nat.reduceLeDiff,Nat.reduceEqDiff]
 refine ae.ok (s2 _) ?_
 simp -implicitDefEqProofs only[↓reduceIte,go_sem,ah,Nat.reduceAdd,Nat.reduceLT,Nat.reduceLeDiff,Nat.reduceEqDiff,dq,iv,e1,e2]
 refine aw.ret ?_
 simp -implicitDefEqProofs only[↓reduceIte,go_sem,Nat.reduceLT]
theorem segReads_does(x0:AV)(h0:tu Tryz.prog 22 x0):ag Tryz.prog 3 [x0] [] (.ok (.d (.v (.bool true)))) []:=by
 obtain⟨b,rfl,hl,hb⟩:=D8 h0
 exact uh b hb hl []
end Go.Proofs.YtmbagpfmfiegkaaGreat
