/- seg.numbers: what it does. crc.Table, Sum, four: what they do. crc.Block, Open: what they do. seg.Bytes: what it does. Sizes and bytes of dict's bytes (plain). What a segment that is made holds, in plain terms. What a codec lays down it reads (plain). seg.head: what it does. (*seg.Seg).zone: what it does. crc.Open: what it does. seg.Of: the walk. seg.Of: what it does. A made segment is read as it was (plain). The codec that is chosen has the fewest bytes (plain). Bursts of bits and the check sum (plain). Segments' bytes turned, or cut (plain). The statements' few and shown (layer 11): what they do. Zones held against each other. ref06.Same, ref11.Same, law11.real: what they do. The law SegCuts: what it does. -/
import Derived.Test.YtmbagpfmfiegkaaGreatM05
set_option maxHeartbeats 8000000
set_option maxRecDepth 100000
set_option linter.all false
namespace Go.Proofs.YtmbagpfmfiegkaaGreat
open Go.Proofs.YtmbagpfmfiegkaaGreatAw Go.RowKit
def By(l:List Nat):List (List D):=l.map fun(n:Nat)=>[D.v (.int .i64 (n:Int))]
def fe(l:List Nat):List Nat:=l.flatMap bq
theorem pM(l:List Nat)(n:Nat):fe (l++[n])=fe l++bq n:=by simp[fe]
theorem oE(l:List Nat)(nn:Bool)(hl:l.length≤1000)(hn:∀n∈l,n<9223372036854775808)(H:aa):ah Tryz.prog 33 [.d (.list nn (By l))] H (.ok (.sl H.length l.length 0 (fe l).length)) (H++[.arr 5 1 l.length (aL (fe l))]):=by
 have hWb:∀k,k≤l.length→(fe (l.take k)).length≤k* 11:=by
  intro k
  induction k with
  |zero=>intro _;simp[fe]
  |succ k ih=>
   intro hk
   have hk':k<l.length:=by omega
   rw[List.take_succ_eq_append_getElem hk',pM,List.length_append]
   have h1:=ih (by omega)
   have h2:=bz 10 l[k] (by have:=hn _ (List.getElem_mem hk');omega)
   omega
 refine ah.ao (hint:=(fun _=>false)) Tryz.func33 (by kernel_rfl) rfl [2] (by kernel_rfl) (by decide) (by simp[Tryz.ntmps33]) ?_
 rw[Tryz.ntmps33]
 simp -implicitDefEqProofs only[↓reduceIte,go_sem,Nat.reduceLT,reduceCtorEq,eq_self]
 refine bD (fun j s H'=>H'=H++[.arr 5 1 j (aL (fe (l.take j)))]∧s 3= .sl H.length j 0 (fe (l.take j)).length∧s 6= .d (.list nn (By l))∧s 7=iA l.length∧s 8=iA j) l.length (by omega) (az.fg _ _ 3 5 1 (by decide) (by simp -implicitDefEqProofs only[↓reduceIte,go_sem,Nat.reduceLT,Nat.reduceEqDiff,eq_self]) _) ?_ ?_ ?_
 ·refine⟨rfl,?_⟩
  simp -implicitDefEqProofs only[↓reduceIte,go_sem,Nat.reduceLT,Nat.reduceEqDiff,eq_self,By,List.length_map]
  rfl
 ·rintro j s H' hj hw ⟨rfl,t3,t6,t7,t8⟩
  have hx:(By l)[j]?=some [.v (.int .i64 ((l[j]:Nat):Int))]:=by unfold By;rw[List.getElem?_map,List.getElem?_eq_getElem hj];rfl
  have hm:=hn _ (List.getElem_mem hj)
  have hb:=hWb j (by omega)
  have e1:fe (l.take (j+1))=fe (l.take j)++bq l[j]:=by rw[List.take_succ_eq_append_getElem hj,pM]
  rw[e1]
  generalize fe (l.take j)=B at*
  generalize l[j]=m at*
  have wm:=aZ m (by omega)
  have hpl:=bz 10 m (by omega)
  simp -implicitDefEqProofs only[↓reduceIte,go_sem,Nat.reduceLT,Nat.reduceEqDiff,eq_self,t3,t6,t7,t8,hj,hx,wm]
  refine ae.ok (ml m (by omega) _) ?_
  simp -implicitDefEqProofs only[↓reduceIte,go_sem,Nat.reduceLT,Nat.reduceEqDiff,eq_self,aS,au,et]
  refine⟨by omega,by omega,?_⟩
  simp -implicitDefEqProofs only[↓reduceIte,go_sem,Nat.reduceLT,eq_self,t8]
  refine fj.same ⟨rfl,?_⟩
  simp -implicitDefEqProofs only[↓reduceIte,go_sem,Nat.reduceLT,Nat.reduceEqDiff,eq_self,t6,t7,hw]
 ·rintro s H' ⟨rfl,t3,t6,t7,t8⟩
  rw[show l.take l.length=l from List.take_length]at*
  simp -implicitDefEqProofs only[↓reduceIte,go_sem,Nat.reduceLT,Nat.reduceEqDiff,eq_self,t3,t7,t8]
  exact⟨_,az.refl _ _,by simp -implicitDefEqProofs only[↓reduceIte,go_sem,Nat.reduceLT,eq_self]⟩
def rp(w:Nat):Nat:=if w%2=1 then w/2^^^3988292384 else w/2
def kp(w:Nat):Nat→Nat
 |0=>w
 |k+1=>rp (kp w k)
theorem DI{w:Nat}(h:w<4294967296):rp w<4294967296:=by
 unfold rp
 split
 ·exact Nat.xor_lt_two_pow (n:=32) (by omega) (by decide)
 ·omega
theorem nm{w:Nat}(h:w<4294967296):∀k,kp w k<4294967296
 |0=>h
 |k+1=>DI (nm h k)
def jU(i:Nat):Nat:=kp i 8
def mV:List Nat:=(List.range 256).map jU
theorem hZ:mV.length=256:=by simp[mV]
theorem u5{i:Nat}(h:i<256):mV[i]?=some (jU i):=by simp[mV,h]
abbrev wA(n:Nat):AV:= .d (.v (.int .u32 n))
def iP(i:Nat):List AV:=(mV.take i).map wA++List.replicate (256-i) (wA 0)
theorem pO{i:Nat}(h:i≤256):(iP i).length=256:=by simp[iP,hZ];omega
theorem Dh{i:Nat}(h:i<256):(iP i).set i (wA (jU i))=iP (i+1):=by
 unfold iP
 have e1:mV.take (i+1)=mV.take i++[jU i]:=by
  rw[List.take_succ_eq_append_getElem (by rw[hZ];exact h)]
  congr 2
  have:=u5 h
  rw[List.getElem?_eq_getElem (by rw[hZ];exact h)]at this
  exact Option.some.inj this
 have e2:256-i=(256-(i+1))+1:=by omega
 rw[e1,e2,List.replicate_succ,List.map_append,List.append_assoc,List.set_append_right _ _ (by simp[hZ];omega)]
 simp[hZ,Nat.min_eq_left (show i≤256 by omega)]
def BS(b:List Nat):Nat:=b.foldl (fun w c=>w/256^^^jU ((w%256)^^^c)) 4294967295
def dw(w:Nat):List Nat:=[w%256,w/256%256,w/65536%256,w/16777216%256]
theorem zJ{i:Nat}(h:i<256):jU i<4294967296:=nm (by omega) 8
theorem oV(n:Nat)(h:n<4294967296):IntKind.u32.wrap (n:Int)=(n:Int):=by
 simp only[IntKind.wrap,IntKind.signed,IntKind.bits]
 simp
 omega
theorem DW(w k:Nat)(h:k≤32):iI .u32 (w:Int) (k:Int)=((w/2^k:Nat):Int):=by
 have:min k 32=k:=by omega
 simp only[iI,IntKind.bits,Int.toNat_natCast,this]
 rw[Int.fdiv_eq_ediv_of_nonneg _ (by exact_mod_cast Nat.zero_le _)]
 norm_cast
theorem Ih{w:Nat}(h:w<4294967296):IntKind.u32.wrap (tO .u32 (w:Int) 1)=((w%2:Nat):Int):=by
 have:=mG .u32 w 1 (by simp only[IntKind.bits];omega) (by decide)
 rw[show((1:Nat):Int)=1 from rfl]at this
 rw[this,Nat.and_one_is_mod]
 exact oV _ (by omega)
theorem Ga{a b:Nat}(ha:a<4294967296)(hb:b<4294967296):IntKind.u32.wrap (o8 .u32 (a:Int) (b:Int))=((a^^^b:Nat):Int):=by
 rw[py .u32 a b (by simp only[IntKind.bits];omega) (by simp only[IntKind.bits];omega)]
 exact oV _ (Nat.xor_lt_two_pow (n:=32) (by omega) (by omega))
theorem pk(H:aa):ah Tryz.prog 43 [] H (.ok (.agg (mV.map wA))) H:=by
 refine ah.bR (hint:=fun _=>false) Tryz.func43 (by kernel_rfl) rfl [.cell 0 86] (by kernel_rfl) (by simp[Tryz.ntmps43]) ?_
 rw[Tryz.ntmps43]
 have h0:List.map (fun c=>AV.d (D.v c)) (Array.replicate 256 (Value.int IntKind.u32 0)).toList=iP 0:=by simp[iP]
 have l0:=pO (i:=0) (by omega)
 simp -implicitDefEqProofs only[go_sem,eq_self]
 rw[h0]
 refine bD (fun i s H'=>H'=H++[.box 86 256 0 1 (iP 0),.box 86 256 0 1 (iP i)]∧s 0= .ptr H.length 0 0 0∧s 1= .ptr (H.length+1) 0 0 0∧s 5=iA i) 256 (by omega) (az.refl _ _) ?_ ?_ ?_
 ·refine⟨rfl,?_⟩
  simp -implicitDefEqProofs only[↓reduceIte,go_sem,Nat.reduceLT,Nat.reduceEqDiff,reduceCtorEq,eq_self]
 ·rintro i s H' hi hw ⟨rfl,t0,t1,t5⟩
  have wi:=oV i (by omega)
  have hrl:=nm (w:=i) (by omega)
  have hcl:=pO (i:=i) (by omega)
  have hset:=Dh hi
  generalize iP (i+1)=C2 at*
  generalize iP i=C at*
  generalize iP 0=C0 at*
  simp -implicitDefEqProofs only[↓reduceIte,go_sem,Nat.reduceLT,Nat.reduceEqDiff,eq_self,t5,show((i:Int)<256)=True from eq_true (by omega),wi]
  refine bD (fun k s H'=>H'=H++[.box 86 256 0 1 C0,.box 86 256 0 1 C]∧s 0= .ptr H.length 0 0 0∧s 1= .ptr (H.length+1) 0 0 0∧s 2=iA i∧s 3=wA (kp i k)∧s 5=iA i∧s 10=iA k) 8 (by omega) (az.refl _ _) ?_ ?_ ?_
  ·refine⟨rfl,?_⟩
   simp -implicitDefEqProofs only[↓reduceIte,go_sem,Nat.reduceLT,Nat.reduceEqDiff,reduceCtorEq,eq_self,t0,t1,t5]
   rfl
  ·rintro k s H1 hk hw2 ⟨rfl,t0,t1,t2,t3,t5,t10⟩
   have hl:=hrl k
   have e1:kp i (k+1)=rp (kp i k):=rfl
   rw[e1]
   generalize kp i k=x at*
   have sh:=DW x 1 (by decide)
   rw[show((1:Nat):Int)=1 from rfl,show 2^1=2 from rfl]at sh
   have an:=Ih hl
   have xo:=Ga (a:=x/2) (b:=3988292384) (by omega) (by decide)
   rw[show((3988292384:Nat):Int)=3988292384 from rfl]at xo
   by_cases hb:x%2=1
   ·have e2:rp x=x/2^^^3988292384:=if_pos hb
    rw[hb]at an
    rw[e2]
    generalize hy:((x/2:Nat):Int)=y at*
    simp -implicitDefEqProofs only[↓reduceIte,go_sem,Nat.reduceLT,Nat.reduceEqDiff,Int.reduceLE,eq_self,t3,t10,show((k:Int)<8)=True from eq_true (by omega),an,sh,xo]
    refine fj.same ⟨rfl,?_⟩
    simp -implicitDefEqProofs only[↓reduceIte,go_sem,Nat.reduceLT,Nat.reduceEqDiff,reduceCtorEq,eq_self,t0,t1,t2,t5,hw2]
   ·have hb0:x%2=0:=by omega
    have e2:rp x=x/2:=if_neg hb
    rw[hb0]at an
    rw[e2]
    generalize hy:((x/2:Nat):Int)=y at*
    simp -implicitDefEqProofs only[↓reduceIte,go_sem,Nat.reduceLT,Nat.reduceEqDiff,Int.reduceLE,Int.reduceEq,eq_self,t3,t10,show((k:Int)<8)=True from eq_true (by omega),an,sh]
    refine fj.same ⟨rfl,?_⟩
    simp -implicitDefEqProofs only[↓reduceIte,go_sem,Nat.reduceLT,Nat.reduceEqDiff,reduceCtorEq,eq_self,t0,t1,t2,t5,hw2,←hy]
  ·rintro s H1 ⟨rfl,t0,t1,t2,t3,t5,t10⟩
   have e3:kp i 8=jU i:=rfl
   rw[e3]at t3
   have hset':List.take i C++AV.d (D.v (Value.int IntKind.u32 (jU i:Int)))::List.drop (i+1) C=C2:=by
    rw[←hset,List.set_eq_take_append_cons_drop,if_pos (by omega)]
   simp -implicitDefEqProofs only[↓reduceIte,go_sem,aq,Nat.reduceLT,Nat.reduceEqDiff,Int.reduceLT,eq_self,t1,t2,t3,t10,hcl,show((i:Int)<256)=True from eq_true (by omega),show i+1≤256 by omega,hset',t5]
   refine fj.same ⟨rfl,?_⟩
   simp -implicitDefEqProofs only[↓reduceIte,go_sem,Nat.reduceLT,Nat.reduceEqDiff,reduceCtorEq,eq_self,t0,t1,hw]
 ·rintro s H' ⟨rfl,t0,t1,t5⟩
  have l6:=pO (i:=256) (by omega)
  have e6:iP 256=mV.map wA:=by unfold iP;rw[List.take_of_length_le (by rw[hZ];exact Nat.le_refl _)];simp
  have o6:(iP 256).all AV.one=true:=by
   rw[e6,List.all_eq_true]
   intro x hx
   obtain⟨n,_,rfl⟩:=List.mem_map.1 hx
   rfl
  have f6:∀(G:aa) (m:Nat),(iP 256).map (kq G m)=iP 256:=fun G m=>by rw[e6,List.map_map];rfl
  rw[←e6]
  have k6:List.take 256 (iP 256)=iP 256:=List.take_of_length_le (by omega)
  generalize iP 256=C at*
  generalize iP 0=C0 at*
  have d0:C0.drop 256=[]:=List.drop_eq_nil_of_le (by omega)
  simp -implicitDefEqProofs only[↓reduceIte,go_sem,ai,aq,Nat.reduceLT,Nat.reduceEqDiff,Int.reduceLT,reduceCtorEq,eq_self,t0,t1,t5,l6,k6,l0,o6,d0,List.take_zero,List.nil_append,List.append_nil]
  refine bG.ret ?_
  simp -implicitDefEqProofs only[↓reduceIte,go_sem,ai,Nat.reduceLeDiff,reduceCtorEq,eq_self,aO,bP,t0,l6,k6,f6]
theorem Ja{c:Nat}(h:c<4294967296):IntKind.u32.wrap (CY .u32 (c:Int))=((4294967295-c:Nat):Int):=by
 have e:CY .u32 (c:Int)=((4294967295-c:Nat):Int):=by
  unfold CY
  show(((BitVec.ofInt 32 4294967295^^^BitVec.ofInt 32 (c:Int)).toNat:Nat):Int)=_
  have h1:BitVec.ofInt 32 4294967295=BitVec.allOnes 32:=by decide
  rw[h1,BitVec.allOnes_xor,BitVec.toNat_not,BitVec.ofInt_natCast,BitVec.toNat_ofNat,Nat.mod_eq_of_lt h]
 rw[e]
 exact oV _ (by omega)
theorem yc(n:Nat):IntKind.u8.wrap (n:Int)=((n%256:Nat):Int):=by
 simp only[IntKind.wrap,IntKind.signed,IntKind.bits]
 simp
theorem uD(b:List Nat)(nn:Bool)(hb:∀c∈b,c<256)(hl:b.length≤140737488355328)(H:aa):ah Tryz.prog 42 [.agg (mV.map wA),.d (.list nn (aL b))] H (.ok (.d (.v (.int .u32 (4294967295-BS b:Nat))))) H:=by
 have tl:(mV.map wA).length=256:=by rw[List.length_map,hZ]
 have tg:∀i,i<256→(mV.map wA)[i]?=some (wA (jU i)):=fun i hi=>by rw[List.getElem?_map,u5 hi];rfl
 have ta:(mV.map wA).all AV.one=true:=by
  rw[List.all_eq_true]
  intro x hx
  obtain⟨n,_,rfl⟩:=List.mem_map.1 hx
  rfl
 generalize mV.map wA=C at*
 have hlt:∀k,(b.take k).foldl (fun w c=>w/256^^^jU ((w%256)^^^c)) 4294967295<4294967296:=by
  intro k
  induction k with
  |zero=>simp
  |succ k ih=>
   rcases Nat.lt_or_ge k b.length with hk|hk
   ·rw[List.take_succ_eq_append_getElem hk,List.foldl_append]
    simp only[List.foldl_cons,List.foldl_nil]
    have hc:=hb _ (List.getElem_mem hk)
    generalize List.foldl _ _ (b.take k)=w at*
    have h1:(w%256)^^^b[k]<256:=Nat.xor_lt_two_pow (n:=8) (by omega) (by omega)
    exact Nat.xor_lt_two_pow (n:=32) (by omega) (zJ h1)
   ·rw[List.take_of_length_le (by omega)]
    rw[List.take_of_length_le hk]at ih
    exact ih
 refine ah.ao (hint:=(fun _=>false)) Tryz.func42 (by kernel_rfl) rfl [4] (by kernel_rfl) (by decide) (by simp[Tryz.ntmps42]) ?_
 rw[Tryz.ntmps42]
 simp -implicitDefEqProofs only[↓reduceIte,go_sem,Nat.reduceLT,Nat.reduceEqDiff,eq_self,ta,tl]
 refine bD (fun k s H'=>H'=H++[.box 86 256 0 1 C]∧s 2= .ptr H.length 0 0 0∧s 5=wA ((b.take k).foldl (fun w c=>w/256^^^jU ((w%256)^^^c)) 4294967295)∧s 8= .d (.list nn (aL b))∧s 9=iA b.length∧s 10=iA k) b.length (by omega) (az.refl _ _) ?_ ?_ ?_
 ·refine⟨rfl,?_⟩
  simp -implicitDefEqProofs only[↓reduceIte,go_sem,Nat.reduceLT,Nat.reduceEqDiff,eq_self,au]
  rfl
 ·rintro k s H' hk hw ⟨rfl,t2,t5,t8,t9,t10⟩
  have hx:(aL b)[k]?=some [.v (.int .u8 ((b[k]:Nat):Int))]:=by unfold aL;rw[List.getElem?_map,List.getElem?_eq_getElem hk];rfl
  have hc:=hb _ (List.getElem_mem hk)
  have hwl:=hlt k
  have e1:(b.take (k+1)).foldl (fun w c=>w/256^^^jU ((w%256)^^^c)) 4294967295=(fun w c=>w/256^^^jU ((w%256)^^^c)) ((b.take k).foldl (fun w c=>w/256^^^jU ((w%256)^^^c)) 4294967295) b[k]:=by rw[List.take_succ_eq_append_getElem hk,List.foldl_append];rfl
  rw[e1]
  generalize (b.take k).foldl (fun w c=>w/256^^^jU ((w%256)^^^c)) 4294967295=w at*
  generalize b[k]=c at*
  have sh:=DW w 8 (by decide)
  rw[show((8:Nat):Int)=8 from rfl,show 2^8=256 from rfl]at sh
  have w8:=yc w
  have x8:IntKind.u8.wrap (o8 .u8 ((w%256:Nat):Int) (c:Int))=(((w%256)^^^c:Nat):Int):=by
   rw[py .u8 _ c (by simp only[IntKind.bits];omega) (by simp only[IntKind.bits];omega),yc,Nat.mod_eq_of_lt (Nat.xor_lt_two_pow (n:=8) (by omega) (by omega))]
  have hj:(w%256)^^^c<256:=Nat.xor_lt_two_pow (n:=8) (by omega) (by omega)
  have hg:=tg _ hj
  have hr:=zJ hj
  have hgt:List.take 1 (List.drop ((w%256)^^^c) C)=[wA (jU ((w%256)^^^c))]:=by
   obtain⟨h1,h2⟩:=List.getElem?_eq_some_iff.1 hg
   rw[List.drop_eq_getElem_cons h1,h2];rfl
  have hx32:=Ga (a:=w/256) (b:=jU ((w%256)^^^c)) (by omega) hr
  generalize hjj:(w%256)^^^c=j at*
  generalize ((w%256:Nat):Int)=y at*
  generalize ((w/256:Nat):Int)=z at*
  simp -implicitDefEqProofs only[↓reduceIte,go_sem,ai,Nat.reduceLT,Nat.reduceLeDiff,Nat.reduceEqDiff,Int.reduceLE,eq_self,t2,t5,t8,t9,t10,hk,hx,sh,w8,x8,tl,show((j:Int)<256)=True from eq_true (by omega),show j≤255 by omega,hgt,hx32]
  refine fj.same ⟨rfl,?_⟩
  simp -implicitDefEqProofs only[↓reduceIte,go_sem,Nat.reduceLT,Nat.reduceEqDiff,eq_self,t2,t8,t9,hw,hjj]
 ·rintro s H' ⟨rfl,t2,t5,t8,t9,t10⟩
  have hn:=Ja (hlt b.length)
  have hs:(b.take b.length).foldl (fun w c=>w/256^^^jU ((w%256)^^^c)) 4294967295=BS b:=by rw[List.take_length];rfl
  rw[hs]at hn t5
  simp -implicitDefEqProofs only[↓reduceIte,go_sem,Nat.reduceLT,Nat.reduceEqDiff,eq_self,t5,t9,t10,hn]
  refine aC.ret ?_
  simp -implicitDefEqProofs only[↓reduceIte,go_sem,Nat.reduceLT,eq_self]
def b8(n:Nat):AV:= .d (.v (.int .u8 n))
def dS(w i:Nat):List AV:=((dw w).take i).map b8++List.replicate (4-i) (b8 0)
theorem nS(w:Nat){i:Nat}(h:i≤4):(dS w i).length=4:=by simp[dS,dw];omega
theorem CJ(w:Nat):∀{i:Nat},i<4→(dS w i).take i++b8 (w/2^(8* i)%256)::(dS w i).drop (i+1)=dS w (i+1)
 |0,_=>by simp[dS,dw,List.replicate]
 |1,_=>by simp[dS,dw,List.replicate]
 |2,_=>by simp[dS,dw,List.replicate]
 |3,_=>by simp[dS,dw]
 |n+4,h=>by omega
theorem rB(w:Nat)(hw:w<4294967296)(H:aa):ah Tryz.prog 41 [.d (.v (.int .u32 w))] H (.ok (.agg ((dw w).map b8))) H:=by
 refine ah.bR (hint:=fun _=>false) Tryz.func41 (by kernel_rfl) rfl [.cell 2 83] (by kernel_rfl) (by simp[Tryz.ntmps41]) ?_
 rw[Tryz.ntmps41]
 have h0:[AV.d (D.v (.int .u8 0)),.d (.v (.int .u8 0)),.d (.v (.int .u8 0)),.d (.v (.int .u8 0))]=dS w 0:=rfl
 simp -implicitDefEqProofs only[go_sem,eq_self]
 refine bD (fun i s H'=>H'=H++[.box 83 4 0 1 (dS w 0),.box 83 4 0 1 (dS w i)]∧s 0= .d (.v (.int .u32 w))∧s 2= .ptr H.length 0 0 0∧s 3= .ptr (H.length+1) 0 0 0∧s 5=iA i) 4 (by omega) (az.refl _ _) ?_ ?_ ?_
 ·refine⟨rfl,?_⟩
  simp -implicitDefEqProofs only[↓reduceIte,go_sem,Nat.reduceLT,Nat.reduceEqDiff,reduceCtorEq,eq_self]
 ·rintro i s H' hi hw' ⟨rfl,t0,t2,t3,t5⟩
  have hl:=nS w (i:=i) (by omega)
  have hset:=CJ w hi
  have m1:IntKind.i64.wrap (8* (i:Int))=((8* i:Nat):Int):=by rw[wrap64_in _ (by omega) (by omega)];omega
  have m2:IntKind.u64.wrap ((8* i:Nat):Int)=((8* i:Nat):Int):=aZ _ (by omega)
  have sh:=DW w (8* i) (by omega)
  have w8:=yc (w/2^(8* i))
  unfold b8 at hset
  generalize ((w/2^(8* i)%256:Nat):Int)=y at*
  generalize ((w/2^(8* i):Nat):Int)=z at*
  have q0:((0:Int)≤((8* i:Nat):Int))=True:=eq_true (by omega)
  generalize ((8* i:Nat):Int)=q at*
  generalize dS w (i+1)=C2 at*
  generalize dS w i=C at*
  generalize dS w 0=C0 at*
  simp -implicitDefEqProofs only[↓reduceIte,go_sem,aq,Nat.reduceLT,Nat.reduceEqDiff,reduceCtorEq,eq_self,t0,t3,t5,m1,m2,sh,w8,q0,hl,show((i:Int)<4)=True from eq_true (by omega),show i+1≤4 by omega,hset]
  refine fj.same ⟨rfl,?_⟩
  simp -implicitDefEqProofs only[↓reduceIte,go_sem,Nat.reduceLT,Nat.reduceEqDiff,reduceCtorEq,eq_self,t0,t2,t3,hw']
 ·rintro s H' ⟨rfl,t0,t2,t3,t5⟩
  have e4:dS w 4=(dw w).map b8:=by simp[dS,dw]
  have l4:=nS w (i:=4) (by omega)
  have l0:=nS w (i:=0) (by omega)
  have f4:∀(G:aa) (m:Nat),(dS w 4).map (kq G m)=dS w 4:=fun G m=>by rw[e4,List.map_map];rfl
  have o4:(dS w 4).all AV.one=true:=by rw[e4];rfl
  have k4:List.take 4 (dS w 4)=dS w 4:=List.take_of_length_le (by omega)
  rw[←e4]
  generalize dS w 4=C at*
  generalize dS w 0=C0 at*
  have d0:C0.drop 4=[]:=List.drop_eq_nil_of_le (by omega)
  simp -implicitDefEqProofs only[↓reduceIte,go_sem,ai,aq,Nat.reduceLT,Nat.reduceEqDiff,Int.reduceLT,eq_self,t2,t3,t5,l4,l0,o4,k4,d0,List.take_zero,List.nil_append,List.append_nil]
  refine bG.ret ?_
  simp -implicitDefEqProofs only[↓reduceIte,go_sem,ai,Nat.reduceLeDiff,Nat.reduceEqDiff,eq_self,aO,bP,t2,l4,k4,f4]
def od(w:Nat):List D:=(dw w).map fun(n:Nat)=> .v (.int .u8 (n:Int))
theorem DH(w:Nat):(dw w).map b8=(od w).map AV.d:=by simp[od,b8]
theorem Cx(w:Nat):(od w).map (fun d=>[d])=aL (dw w):=by simp[od,aL]
def kz(b:List Nat):Nat:=4294967295-BS b
theorem z8(b:List Nat):kz b<4294967296:=by unfold kz;omega
def ca(b:List Nat):List Nat:=bq b.length++b++dw (kz b)
theorem wT(w:Nat):∀c∈dw w,c<256:=by
 intro c hc
 simp only[dw,List.mem_cons,List.not_mem_nil,or_false]at hc
 omega
theorem rm(b:List Nat)(nn:Bool)(hb:∀c∈b,c<256)(hl:b.length≤1000000000)(H:aa):ah Tryz.prog 22 [.d (.list nn (aL b))] H (.ok (.sl (H.length+1) ((bq b.length).length+2) 0 (ca b).length)) (H++[.arr 83 4 1 [],.arr 5 1 ((bq b.length).length+2) (aL (ca b))]):=by
 have hs:=fun H=>uD b nn hb (by omega) H
 have hc:=z8 b
 have hf:=fun H=>rB (kz b) hc H
 rw[DH]at hf
 have hl4:(od (kz b)).length=4:=rfl
 have ho4:((od (kz b)).map AV.d).all AV.one=true:=by simp[AV.one]
 have hb4:=Cx (kz b)
 have hl4':((od (kz b)).map AV.d).length=4:=by rw[List.length_map];exact hl4
 have hbl:(aL (dw (kz b))).length=4:=by rw[au];rfl
 unfold ca
 unfold kz at*
 generalize od (4294967295-BS b)=F at*
 generalize dw (4294967295-BS b)=W at*
 have hpo:=fun H=>fS b.length (by omega) H
 have hpl:(bq b.length).length≤11:=by
  have:=bz 10 b.length (by omega)
  omega
 have hwl:W.length=4:=by rw[←au];exact hbl
 generalize bq b.length=p at*
 have wl:IntKind.u64.wrap (b.length:Int)=(b.length:Int):=aZ _ (by omega)
 have hex:∀o:aE,Ext (H++[.arr 83 4 1 []]) (H++[.arr 83 4 1 [],o]):=fun o=>by
  have:=Ext.app (H++[.arr 83 4 1 []]) [o]
  rwa[List.append_assoc]at this
 refine ah.ao (hint:=(fun t=>t==1000002)) Tryz.func22 (by kernel_rfl) rfl [2] (by kernel_rfl) (by decide) (by simp[Tryz.ntmps22]) ?_
 rw[Tryz.ntmps22]
 simp -implicitDefEqProofs only[go_sem,Nat.reduceAdd,Nat.reduceBEq]
 refine ae.ok (pk _) ?_
 simp -implicitDefEqProofs only[↓reduceIte,go_sem,Nat.reduceLT,Nat.reduceEqDiff,reduceCtorEq,eq_self]
 refine ae.ok (hs _) ?_
 simp -implicitDefEqProofs only[↓reduceIte,go_sem,Nat.reduceLT,eq_self]
 refine ae.ok (hf _) ?_
 generalize hFm:F.map AV.d=C at*
 have k4:List.take 4 C=C:=List.take_of_length_le (by omega)
 simp -implicitDefEqProofs only[↓reduceIte,go_sem,aq,Nat.reduceAdd,Nat.reduceLT,Nat.reduceEqDiff,Nat.reduceBEq,eq_self,hl4',ho4,List.append_nil]
 refine⟨_,_,az.DE _ _ 3 H.length 83 4 0 1 F (by simp -implicitDefEqProofs only[go_sem,eq_self,hFm]) (by simp -implicitDefEqProofs only[↓reduceIte,go_sem,Nat.reduceLT,eq_self]),?_⟩
 simp -implicitDefEqProofs only[go_sem]
 refine dC [some false,some false,some false,some true,some false,some true,none,some true] 3 (H++[.arr 83 4 1 []]) K.mixed (by kernel_rfl) (by kernel_rfl) (by kernel_rfl) (Ext.refl _) ?_
 simp -implicitDefEqProofs only[↓reduceIte,go_sem,Nat.reduceLT,reduceCtorEq,eq_self,au,wl]
 refine ae.ok (hpo _) ?_
 simp -implicitDefEqProofs only[↓reduceIte,go_sem,Nat.reduceLT,Nat.reduceLeDiff,Nat.reduceEqDiff,reduceCtorEq,eq_self,aS,au,et,hl4,hb4,hwl]
 refine⟨hex _,by omega,by omega,hex _,by omega,by omega,hex _,?_⟩
 exact⟨_,az.refl _ _,by simp -implicitDefEqProofs only[↓reduceIte,go_sem,Nat.reduceAdd,Nat.reduceLT,eq_self,Nat.add_assoc]⟩
theorem xL(b:List Nat)(nn:Bool)(hb:∀c∈b,c<256)(hl:b.length≤1000000000)(H:aa):ah Tryz.prog 22 [.d (.list nn (aL b))] H (.ok (.d (.list false (aL (ca b))))) H:=by
 have h:=(rm b nn hb hl H).drop
 have hg:(H++[aE.arr 83 4 1 [],.arr 5 1 ((bq b.length).length+2) (aL (ca b))])[H.length+1]?=some (.arr 5 1 ((bq b.length).length+2) (aL (ca b))):=by simp
 rw[tI,oN,if_neg (by omega),hg]at h
 simp only[if_true,List.drop_zero]at h
 rwa[dK _ _ (au _)]at h
def ek(k c:Nat)(s:Sg):List Nat:=fe [k,c,s.aP.rows,s.aP.aB]++cg s.aB++cY s.aP.mn++cY s.aP.mx++s.body
def fc(k c:Nat)(s:Sg):List Nat:=ca (ek k c s)
theorem qy(s:Sg)(k c:Nat)(hk:s.kind=(k:Int))(hc:s.aR=(c:Int))(hk2:k≤1000000)(hc2:c≤1000000)(hr:s.aP.rows≤1000000000)(hn:s.aP.aB≤1000000000)(hnl:s.aB.length≤1000000)(hbl:s.body.length≤900000000)
  (hi:(dI s.aP.mn.i∧cW s.aP.mn=true)∧dI s.aP.mx.i∧cW s.aP.mx=true) (hb:∀x∈s.body,x<256) (hb2:∀x∈ek k c s,x<256) (H:aa):
  ah Tryz.prog 15 [.agg s.cs] H (.ok (.sl (H.length+3) ((bq (ek k c s).length).length+2) 0 (fc k c s).length)) (H++[.box 30 12 0 1 s.cs,.arr 5 1 9 [],.arr 83 4 1 [],.arr 5 1 ((bq (ek k c s).length).length+2) (aL (fc k c s))]):=by
 have hv1:=fun H=>eG s.aP.mn hi.1.1 hi.1.2 H
 have hv2:=fun H=>eG s.aP.mx hi.2.1 hi.2.2 H
 have hnb:=fun H=>wL s.aB false hnl H
 have hnu:=fun H=>oE [k,c,s.aP.rows,s.aP.aB] true (by simp) (fun n hn'=>by simp only[List.mem_cons,List.not_mem_nil,or_false]at hn';omega) H
 have hnl2:(fe [k,c,s.aP.rows,s.aP.aB]).length≤44:=by
  have h1:=bz 10 k (by omega)
  have h2:=bz 10 c (by omega)
  have h3:=bz 10 s.aP.rows (by omega)
  have h4:=bz 10 s.aP.aB (by omega)
  simp only[fe,List.flatMap_cons,List.flatMap_nil,List.length_append,List.length_nil]
  omega
 have hpl:(cg s.aB).length≤1000000:=by rw[cF];omega
 have hll1:=dx hi.1.1 hi.1.2
 have hll2:=dx hi.2.1 hi.2.2
 have hbk:∀o1 o2,ah Tryz.prog 22 [.d (.list false (aL (ek k c s)))] (H++[o1,o2]) (.ok (.sl (H.length+3) ((bq (ek k c s).length).length+2) 0 (ca (ek k c s)).length)) (H++[o1,o2,.arr 83 4 1 [],.arr 5 1 ((bq (ek k c s).length).length+2) (aL (ca (ek k c s)))]):=fun o1 o2=>by
  have:=rm (ek k c s) false hb2 (by unfold ek;simp only[List.length_append];omega) (H++[o1,o2])
  rwa[List.append_assoc,List.length_append]at this
 unfold fc
 have hcs:s.cs=[iA k,iA c,iA s.aP.rows,iA s.aP.aB,iA s.aP.mn.kind,iA s.aP.mn.i,sA s.aP.mn.s,iA s.aP.mx.kind,iA s.aP.mx.i,sA s.aP.mx.s,.d (.list false (bZ s.aB)),.d (.list false (aL s.body))]:=by unfold Sg.cs;rw[hk,hc]
 rw[hcs]
 unfold ek at*
 have hnr:By [k,c,s.aP.rows,s.aP.aB]=[[D.v (.int .i64 (k:Int))],[.v (.int .i64 (c:Int))],[.v (.int .i64 (s.aP.rows:Int))],[.v (.int .i64 (s.aP.aB:Int))]]:=rfl
 rw[hnr]at hnu
 generalize fe [k,c,s.aP.rows,s.aP.aB]=N at*
 generalize cg s.aB=PB at*
 generalize cY s.aP.mn=V1 at*
 generalize cY s.aP.mx=V2 at*
 generalize s.body=BD at*
 generalize s.aB=NL at*
 generalize s.aP.mn=mn at*
 generalize s.aP.mx=mx at*
 generalize s.aP.rows=rw at*
 generalize s.aP.aB=nu at*
 clear hcs hk hc
 have hE:∀o:aE,Ext (H++[.box 30 12 0 1 [iA k,iA c,iA rw,iA nu,iA mn.kind,iA mn.i,sA mn.s,iA mx.kind,iA mx.i,sA mx.s,.d (.list false (bZ NL)),.d (.list false (aL BD))]]) (H++[.box 30 12 0 1 [iA k,iA c,iA rw,iA nu,iA mn.kind,iA mn.i,sA mn.s,iA mx.kind,iA mx.i,sA mx.s,.d (.list false (bZ NL)),.d (.list false (aL BD))],o])=True:=fun o=>eq_true (Ext.fm H ⟨fun _=>rfl,trivial⟩)
 obtain⟨x,hx⟩:∃x,x=N++PB++V1++V2++BD:=⟨_,rfl⟩
 rw[←hx]at hbk⊢
 have hE3:∀T:aa,Ext (H++[.box 30 12 0 1 [iA k,iA c,iA rw,iA nu,iA mn.kind,iA mn.i,sA mn.s,iA mx.kind,iA mx.i,sA mx.s,.d (.list false (bZ NL)),.d (.list false (aL BD))]]) (H++ .box 30 12 0 1 [iA k,iA c,iA rw,iA nu,iA mn.kind,iA mn.i,sA mn.s,iA mx.kind,iA mx.i,sA mx.s,.d (.list false (bZ NL)),.d (.list false (aL BD))]::T)=True:=fun T=>eq_true (by have:=Ext.app (H++[.box 30 12 0 1 [iA k,iA c,iA rw,iA nu,iA mn.kind,iA mn.i,sA mn.s,iA mx.kind,iA mx.i,sA mx.s,.d (.list false (bZ NL)),.d (.list false (aL BD))]]) T;rwa[List.append_assoc]at this)
 have hsetb:∀o1 o2 o3:aE,(H++[o1,o2]).set (H.length+1) o3=H++[o1,o3]:=fun o1 o2 o3=>by simp[]
 refine ah.ao (hint:=(fun _=>false)) Tryz.func15 (by kernel_rfl) rfl [2] (by kernel_rfl) (by decide) (by simp[Tryz.ntmps15]) ?_
 rw[Tryz.ntmps15]
 simp -implicitDefEqProofs only[↓reduceIte,go_sem,ai,Nat.reduceAdd,Nat.reduceLT,Nat.reduceLeDiff,Nat.reduceEqDiff,eq_self]
 refine ae.ok (hnu _) ?_
 simp -implicitDefEqProofs only[↓reduceIte,go_sem,ai,Nat.reduceAdd,Nat.reduceLT,Nat.reduceLeDiff,Nat.reduceEqDiff,eq_self]
 refine ae.ok (hv1 _) ?_
 simp -implicitDefEqProofs only[↓reduceIte,go_sem,ai,Nat.reduceAdd,Nat.reduceLT,Nat.reduceLeDiff,Nat.reduceEqDiff,eq_self]
 refine ae.ok (hv2 _) ?_
 simp -implicitDefEqProofs only[↓reduceIte,go_sem,ai,Nat.reduceAdd,Nat.reduceLT,Nat.reduceLeDiff,Nat.reduceEqDiff,eq_self]
 refine ae.ok (hnb _) ?_
 simp -implicitDefEqProofs only[↓reduceIte,go_sem,Nat.reduceAdd,Nat.reduceLT,Nat.reduceEqDiff,eq_self,aS,au,et,List.length_cons,List.length_nil]
 refine⟨by omega,by omega,?_⟩
 refine dC [some false,some false,some true,some false,some true,none,none,some true,some true] 2 (H++[.box 30 12 0 1 [iA k,iA c,iA rw,iA nu,iA mn.kind,iA mn.i,sA mn.s,iA mx.kind,iA mx.i,sA mx.s,.d (.list false (bZ NL)),.d (.list false (aL BD))]]) K.mixed (by kernel_rfl) (by kernel_rfl) (by kernel_rfl) (of_eq_true (hE _)) ?_
 simp -implicitDefEqProofs only[↓reduceIte,go_sem,ai,Nat.reduceAdd,Nat.reduceLT,Nat.reduceEqDiff,eq_self,aS,au,et,hE]
 refine⟨by omega,by omega,by omega,by omega,by omega,by omega,by omega,by omega,?_⟩
 refine ae.oR [] (e:=5) (k:=1) (ver:=8) (es:=aL (N++PB++V1++V2++BD)) (by simp) (by rw[List.drop_zero,List.take_of_length_le (by rw[au];simp only[List.length_append];omega),hsetb,←hx];exact hbk _ _) ?_
 simp -implicitDefEqProofs only[↓reduceIte,go_sem,Nat.reduceAdd,Nat.reduceLT,eq_self,hE3]
 exact⟨_,az.refl _ _,by simp -implicitDefEqProofs only[↓reduceIte,go_sem,Nat.reduceLT,eq_self]⟩
theorem vu(s:Sg)(k c:Nat)(hk:s.kind=(k:Int))(hc:s.aR=(c:Int))(hk2:k≤1000000)(hc2:c≤1000000)(hr:s.aP.rows≤1000000000)(hn:s.aP.aB≤1000000000)(hnl:s.aB.length≤1000000)(hbl:s.body.length≤900000000)
  (hi:(dI s.aP.mn.i∧cW s.aP.mn=true)∧dI s.aP.mx.i∧cW s.aP.mx=true) (hb:∀x∈s.body,x<256) (hb2:∀x∈ek k c s,x<256) (H:aa):
  ah Tryz.prog 15 [.agg s.cs] H (.ok (.d (.list false (aL (fc k c s))))) H:=by
 have h:=(qy s k c hk hc hk2 hc2 hr hn hnl hbl hi hb hb2 H).drop
 rw[tI,oN,if_neg (by omega),show ∀a b c d:aE,(H++[a,b,c,d])[H.length+3]?=some d from fun a b c d=>by simp]at h
 simp only[if_true,List.drop_zero]at h
 rwa[dK _ _ (au _)]at h
theorem jm{v:aj}(hi:dI v.i)(hm:cW v=true):cf (cY v):=by
 unfold cY
 split
 ·exact dj (gk hi.1 hi.2)
 ·split
  ·exact wh _
  ·split
   ·rename_i h3
    have hs:=pj hm h3
    intro c hc
    unfold lk at hc
    rcases List.mem_append.1 hc with h|h
    ·exact dj (n:=v.s.size) (by omega) c h
    ·exact vM _ c h
   ·intro c hc;simp at hc
theorem zk{l:List aj}{k:Int}(h:aQ l k=0)(hok:∀v∈l,dI v.i):cf (fb l):=by
 have hmay:=eI h
 have h4:=eg h
 have hwl:=kP l
 intro c hc
 unfold fb at hc
 rcases List.mem_append.1 hc with hc|hc
 ·rcases List.mem_append.1 hc with hc|hc
  ·exact dj (n:=(aW aU l).length) (by omega) c hc
  ·obtain⟨v,hv,hc⟩:=List.mem_flatMap.1 hc
   have hv':=ej bF hv
   exact jm (hok v hv') (hmay v hv') c hc
 ·obtain⟨i,_,rfl⟩:=List.mem_map.1 hc
  exact kM _ _
theorem jy:∀(W:List aj),(∀v∈W,dI v.i∧cW v=true)→(a8 W).length≤W.length* 1035
 |[],_=>by simp[a8]
 |v::W,h=>by
  have h1:=jy W fun x hx=>h x (by simp[hx])
  have h2:=dx (h v (by simp)).1 (h v (by simp)).2
  have e:a8 (v::W)=cY v++a8 W:=by simp[a8]
  rw[e,List.length_append,List.length_cons]
  omega
theorem Bc{l:List aj}{k:Int}(h:aQ l k=0)(hok:∀v∈l,dI v.i):(fb l).length≤10000000:=by
 have hmay:=eI h
 have h4:=eg h
 have hwl:=kP l
 have h1:=jy (aW aU l) fun v hv=>⟨hok v (ej bF hv),hmay v (ej bF hv)⟩
 have h2:=bz 10 (aW aU l).length (by omega)
 have hw:=sZ (n:=(aW aU l).length) (by omega)
 have h3:(l.map (ea l)).length* eC (aW aU l).length≤4096* 12:=Nat.mul_le_mul (by rw[List.length_map];omega) hw
 unfold fb
 rw[List.length_append,List.length_append,cN,cF,en]
 omega
theorem x4(l:List aj)(hl:l.length≤4096)(hok:∀v∈l,dI v.i):(gI l).length≤100000:=by
 cases l with
 |nil=>simp[gI]
 |cons v r=>
  have hv:=hok v (by simp)
  have hz:=gk hv.1 hv.2
  have hw:=kN (kY (v::r))
  have l1:=bz 10 (fZ v.i) (by omega)
  have l2:=bz 10 (db (bY (v::r))) (by omega)
  have h3:(bY (v::r)).length* db (bY (v::r))≤4096* 64:=Nat.mul_le_mul (by rw[fB];omega) hw
  rw[ky,List.length_append,List.length_append,cN,cF,en]
  omega
theorem wI(l:List aj)(hok:∀v∈l,dI v.i):cf (gI l):=by
 cases l with
 |nil=>intro n hn;simp[gI]at hn
 |cons v r=>
  have h:=hok v (by simp)
  exact((dj (gk h.1 h.2)).app (dj (by have:=kN (kY (v::r));omega))).app (yT _ _)
theorem uE{l:List aj}(h:∀v∈l,dI v.i∧cW v=true):cf (a8 l):=fun c hc=>by
 obtain⟨v,hv,hc⟩:=List.mem_flatMap.1 hc
 exact jm (h v hv).1 (h v hv).2 c hc
theorem FB{r:Nat×aj}(h1:r.1≤4096)(h2:dI r.2.i∧cW r.2=true):cf (lf r)∧(lf r).length≤1050:=by
 have h3:=bz 10 r.1 (by omega)
 have h4:=dx h2.1 h2.2
 refine⟨(dj (by omega)).app (jm h2.1 h2.2),?_⟩
 unfold lf
 rw[List.length_append];omega
theorem zK:∀{R:List (Nat×aj)},(∀r∈R,r.1≤4096∧dI r.2.i∧cW r.2=true)→cf (ey R)∧(ey R).length≤R.length* 1050
 |[],_=>⟨fun c hc=>by simp[ey]at hc,by simp[ey]⟩
 |r::R,h=>by
  obtain⟨h1,h2⟩:=zK (R:=R) fun x hx=>h x (by simp[hx])
  obtain⟨h3,h4⟩:=FB (h r (by simp)).1 (h r (by simp)).2
  have e:ey (r::R)=lf r++ey R:=by simp[ey]
  rw[e]
  exact⟨h3.app h1,by rw[List.length_append,List.length_cons];omega⟩
theorem EZ{l:List aj}{k w:Int}(hp:aQ l k=0)(hok:∀v∈l,dI v.i):cf (cj l k w).1∧(cj l k w).1.length≤10000000:=by
 have hmay:=eI hp
 have h4:=eg hp
 have hv:∀v∈l,dI v.i∧cW v=true:=fun v hv=>⟨hok v hv,hmay v hv⟩
 unfold cj
 split
 ·rw[show iR l k=a8 l from if_pos hp]
  exact⟨uE hv,by have:=jy l hv;simp only;omega⟩
 split
 ·rw[show sr l k=ey (c5 l)from if_pos hp]
  have h1:=kW l l.length
  have h2:=kX l l.length
  rw[List.take_length]at h1 h2
  have h3:=ng (p:=fun v=>dI v.i∧cW v=true) (l:=l) hv
  obtain⟨g1,g2⟩:=zK (R:=c5 l) fun r hr=>⟨by have:=h2 r hr;omega,h3 r hr⟩
  exact⟨g1,by simp only;omega⟩
 split
 ·rw[show lF l k=fb l from if_pos hp]
  exact⟨zk hp hok,Bc hp hok⟩
 split
 ·unfold kI
  split
  ·exact⟨wI l hok,by have:=x4 l h4 hok;simp only;omega⟩
  ·exact⟨fun c hc=>by simp at hc,by simp⟩
 ·exact⟨fun c hc=>by simp at hc,by simp⟩
theorem jx{l:List aj}{k w:Int}(h:(cj l k w).2=0):1≤w∧w≤4∧(w=4→k=1):=by
 unfold cj at h
 split at h
 ·omega
 split at h
 ·omega
 split at h
 ·omega
 split at h
 ·omega
 ·simp at h
def rk(v:aj):Prop:=dI v.i∧cW v=true
def tJ(z:Zn):Prop:=rk z.mn∧rk z.mx
theorem vK{z:Zn}{v:aj}(hz:tJ z)(hv:v.kind≠0→rk v):tJ (aM z v):=by
 unfold aM
 split
 ·exact hz
 rename_i hk
 have hv:=hv hk
 have h1:tJ (ed z v):=by unfold ed;split;exact⟨hv,hv⟩;exact hz
 have h2:tJ (dY (ed z v) v):=by unfold dY;split;exact⟨hv,h1.2⟩;exact h1
 unfold fq;split;exact⟨h2.1,hv⟩;exact h2
theorem uO{l:List aj}(h:∀v∈l,v.kind≠0→rk v):tJ (bf l):=by
 have:∀(l:List aj) (z:Zn),(∀v∈l,v.kind≠0→rk v)→tJ z→tJ (l.foldl aM z):=by
  intro l
  induction l with
  |nil=>exact fun z _ h=>h
  |cons v l ih=>exact fun z hl hz=>ih _ (fun x hx=>hl x (by simp[hx])) (vK hz (hl v (by simp)))
 have e0:rk ⟨0,0,dH⟩:=⟨⟨by decide,by decide⟩,by simp[cW,gT]⟩
 exact this l _ h ⟨e0,e0⟩
theorem qK(z:Zn)(v:aj):(aM z v).rows=z.rows:=by
 unfold aM
 split
 ·rfl
 ·unfold fq;split<;>(unfold dY;split<;>(unfold ed;split<;>rfl))
theorem fw(l:List aj):(bf l).rows=l.length:=by
 have:∀(m:List aj) (z:Zn),(m.foldl aM z).rows=z.rows:=by
  intro m
  induction m with
  |nil=>exact fun z=>rfl
  |cons v m ih=>exact fun z=>(ih _).trans (qK z v)
 exact this l _
theorem qd(z:Zn)(v:aj):(aM z v).aB=z.aB+if v.kind=0 then 1 else 0:=by
 unfold aM
 split
 ·rfl
 ·have e1:(ed z v).aB=z.aB:=by unfold ed;split<;>rfl
  have e2:∀z,(dY z v).aB=z.aB:=fun z=>by unfold dY;split<;>rfl
  have e3:∀z,(fq z v).aB=z.aB:=fun z=>by unfold fq;split<;>rfl
  rw[e3,e2,e1];rfl
theorem iw(l:List aj):(bf l).aB=aJ (b6 l):=by
 have:∀(m:List aj) (z:Zn),(m.foldl aM z).aB=z.aB+aJ (b6 m):=by
  intro m
  induction m with
  |nil=>exact fun z=>rfl
  |cons v m ih=>
   intro z
   rw[List.foldl_cons,ih,qd]
   have e:aJ (b6 (v::m))=(if v.kind=0 then 1 else 0)+aJ (b6 m):=by
    unfold b6 aJ
    rw[List.map_cons,List.countP_cons]
    by_cases h:v.kind=0<;>simp[h]<;>omega
   rw[e];omega
 rw[bf,this l _]
 simp
structure Made (l:List aj) (k w:Int) (s:Sg):Prop where
 lJ:aQ (aF l) k=0
 len:l.length≤4096
 Ac:(cj (aF l) k (bL l k w)).2=0
 eq:s=⟨k,bL l k w,bf l,cb l,(cj (aF l) k (bL l k w)).1⟩
theorem kO{l:List aj}{k w:Int}(h:(dN l k w).2=0):Made l k w (dN l k w).1:=by
 unfold dN at*
 split at h
 ·rename_i he;exact absurd h he
 rename_i h1
 rw[if_neg h1]
 split at h
 ·simp at h
 rename_i h2
 rw[if_neg h2]
 split at h
 ·rename_i he;exact absurd h he
 rename_i h3
 rw[if_neg h3]
 exact⟨by simpa using h1,by omega,by simpa using h3,rfl⟩
theorem km{l:List aj}{v:aj}(h:v∈aF l):v∈l:=(List.mem_filter.1 h).1
theorem FQ{l:List aj}{v:aj}(h:v∈l)(hk:v.kind≠0):v∈aF l:=List.mem_filter.2 ⟨h,by simpa using hk⟩
theorem Made.EW{l:List aj}{k w:Int}{s:Sg}(h:Made l k w s)(hok:∀v∈l,dI v.i):∀v∈l,v.kind≠0→gb k v:=fun v hv hk=>by
 have hs:=FQ hv hk
 have:=((cx _ _).1 h.lJ).2.2 v hs
 exact⟨this.2,this.1,hok v hv⟩
theorem Made.bytes{l:List aj}{k w:Int}{s:Sg}(hm:Made l k w s)(hok:∀v∈l,dI v.i):∃kn cn:Nat,k=(kn:Int)∧1≤kn∧kn≤3∧bL l k w=(cn:Int)∧1≤cn∧cn≤4∧cf (ek kn cn s)∧(ek kn cn s).length≤20000000∧(∀H,ah Tryz.prog 15 [.agg s.cs] H (.ok (.d (.list false (aL (fc kn cn s))))) H)∧
  ∀H:aa,ah Tryz.prog 15 [.agg s.cs] H (.ok (.sl (H.length+3) ((bq (ek kn cn s).length).length+2) 0 (fc kn cn s).length)) (H++[.box 30 12 0 1 s.cs,.arr 5 1 9 [],.arr 83 4 1 [],.arr 5 1 ((bq (ek kn cn s).length).length+2) (aL (fc kn cn s))]):=by
 have hk:=((cx _ _).1 hm.lJ).1
 rw[fF]at hk
 obtain⟨c1,c2,_⟩:=jx hm.Ac
 have hz:tJ (bf l):=uO fun v hv hk=>⟨hok v hv,(hm.EW hok v hv hk).1⟩
 have hnu:=iw l
 have hro:=fw l
 have hcl:=fC (b6 l)
 have hnl:=dE l
 obtain⟨b1,b2⟩:=EZ (w:=bL l k w) hm.lJ fun v hv=>hok v (km hv)
 have hml:(cb l).length≤4096:=by have:=hm.len;unfold cb;split;simp;omega
 have hl4:=hm.len
 have hlen1:=bz 10 k.toNat (by omega)
 have hlen2:=bz 10 (bL l k w).toNat (by omega)
 have hlen3:=bz 10 (bf l).rows (by omega)
 have hlen4:=bz 10 (bf l).aB (by omega)
 have hb2:cf (ek k.toNat (bL l k w).toNat s):=by
  rw[hm.eq]
  unfold ek
  simp only
  refine((((?_:cf _).app ?_).app (jm hz.1.1 hz.1.2)).app (jm hz.2.1 hz.2.2)).app b1
  ·intro c hc
   obtain⟨x,hx,hc⟩:=List.mem_flatMap.1 hc
   simp only[List.mem_cons,List.not_mem_nil,or_false]at hx
   exact dj (by omega) c hc
  ·intro c hc
   obtain⟨i,_,rfl⟩:=List.mem_map.1 hc
   exact kM _ _
 have hv1:=dx hz.1.1 hz.1.2
 have hv2:=dx hz.2.1 hz.2.2
 have pre:= @qy s k.toNat (bL l k w).toNat (by rw[hm.eq];simp only;omega) (by rw[hm.eq];simp only;omega) (by omega) (by omega) (by rw[hm.eq];simp only;omega) (by rw[hm.eq];simp only;omega) (by rw[hm.eq];simp only;omega) (by rw[hm.eq];simp only;omega) (by rw[hm.eq];exact hz) (by rw[hm.eq];exact b1) hb2
 have pre2:= @vu s k.toNat (bL l k w).toNat (by rw[hm.eq];simp only;omega) (by rw[hm.eq];simp only;omega) (by omega) (by omega) (by rw[hm.eq];simp only;omega) (by rw[hm.eq];simp only;omega) (by rw[hm.eq];simp only;omega) (by rw[hm.eq];simp only;omega) (by rw[hm.eq];exact hz) (by rw[hm.eq];exact b1) hb2
 refine⟨k.toNat,(bL l k w).toNat,by omega,by omega,by omega,by omega,by omega,by omega,hb2,?_,pre2,pre⟩
 rw[hm.eq]
 unfold ek
 simp only[List.length_append,fe,List.flatMap_cons,List.flatMap_nil,List.length_nil,cF]
 omega
def Ch:Option aj→List (Nat×aj)→Prop
 |_,[]=>True
 |o,r::R=>o≠some r.2∧Ch (some r.2) R
def oe(o:Option aj):List (Nat×aj)→Option aj
 |[]=>o
 |r::R=>oe (some r.2) R
theorem oU:∀(o:Option aj) (R:List (Nat×aj)) (r:Nat×aj),Ch o (R++[r])↔Ch o R∧oe o R≠some r.2
 |o,[],r=>by simp[Ch,oe]
 |o,x::R,r=>by
  show(o≠some x.2∧Ch (some x.2) (R++[r]))↔(o≠some x.2∧Ch (some x.2) R)∧oe (some x.2) R≠some r.2
  rw[oU,and_assoc]
theorem lO:∀(o:Option aj) (R:List (Nat×aj)) (r:Nat×aj),oe o (R++[r])=some r.2
 |o,[],r=>rfl
 |o,x::R,r=>lO (some x.2) R r
theorem pa{R:List (Nat×aj)}(h:R≠[]):oe none R=some (cL R).2:=by
 have e:=List.dropLast_concat_getLast h
 have e2:cL R=R.getLast h:=by unfold cL;rw[List.getLast?_eq_some_getLast h];rfl
 rw[e2]
 have:=lO none R.dropLast (R.getLast h)
 rwa[e]at this
def lg(R:List (Nat×aj)):Nat:=(R.map (·.1)).sum
def jk(R:List (Nat×aj)):List aj:=R.flatMap fun r=>List.replicate r.1 r.2
theorem nI(R S:List (Nat×aj)):jk (R++S)=jk R++jk S:=by simp[jk]
theorem BF(R:List (Nat×aj)):(jk R).length=lg R:=by
 induction R with
 |nil=>rfl
 |cons r R ih=>simp[jk,lg]at ih⊢
theorem vq(R:List (Nat×aj))(h:lg R≤4096):cO R=jk R:=by
 have:∀(R:List (Nat×aj)) (l:List aj),l.length+lg R≤4096→R.foldl cd l=l++jk R:=by
  intro R
  induction R with
  |nil=>intro l _;simp[jk]
  |cons r R ih=>
   intro l h
   have e:lg (r::R)=r.1+lg R:=by simp[lg]
   rw[e]at h
   rw[List.foldl_cons,ih _ (by simp only[cd,List.length_append,List.length_replicate];omega)]
   have e2:min r.1 (4096-l.length)=r.1:=by omega
   simp[cd,e2,jk]
 have:=this R [] (by simpa using h)
 simpa[cO]using this
structure xD (l:List aj) (R:List (Nat×aj)):Prop where
 ch:Ch none R
 flat:jk R=l
 one:∀r∈R,1≤r.1
theorem xD.add{l:List aj}{R:List (Nat×aj)}(h:xD l R)(v:aj):xD (l++[v]) (gQ R v):=by
 unfold gQ
 by_cases c:R≠[]∧(cL R).2=v
 ·rw[if_pos c]
  obtain⟨hne,hv⟩:=c
  have e:=List.dropLast_concat_getLast hne
  have e2:cL R=R.getLast hne:=by unfold cL;rw[List.getLast?_eq_some_getLast hne];rfl
  rw[e2]at hv⊢
  obtain⟨h1,h2,h3⟩:=h
  generalize R.getLast hne=q at*
  generalize R.dropLast=D at*
  subst e
  obtain⟨n,w⟩:=q
  simp only at hv⊢
  subst hv
  rw[oU]at h1
  refine⟨(oU _ _ _).2 h1,?_,fun r hr=>?_⟩
  ·rw[←h2,nI,nI,List.append_assoc]
   congr 1
   simp[jk,List.replicate_succ']
  ·rcases List.mem_append.1 hr with hr|hr
   ·exact h3 r (by simp[hr])
   ·rw[List.mem_singleton.1 hr];simp only;omega
 ·rw[if_neg c]
  refine⟨(oU _ _ _).2 ⟨h.ch,fun hl=>?_⟩,?_,fun r hr=>?_⟩
  ·by_cases hne:R=[]
   ·subst hne;simp[oe]at hl
   ·rw[pa hne]at hl
    exact c ⟨hne,Option.some.inj hl⟩
  ·rw[nI,h.flat];simp[jk]
  ·rcases List.mem_append.1 hr with hr|hr
   ·exact h.one r hr
   ·rw[List.mem_singleton.1 hr];simp
theorem E3(l:List aj):xD l (c5 l):=by
 have:∀(m l:List aj) (R:List (Nat×aj)),xD l R→xD (l++m) (m.foldl gQ R):=by
  intro m
  induction m with
  |nil=>intro l R h;simpa using h
  |cons v m ih=>
   intro l R h
   have:=ih _ _ (h.add v)
   rwa[List.append_assoc]at this
 have h0:xD [] []:=⟨trivial,rfl,by simp⟩
 simpa[c5]using this l [] [] h0
theorem BV{k:Int}(hk:bT k=true)(q:Nat×aj)(n:Nat)(r:List Nat)(h1:1≤q.1)(hn:q.1≤n)(h4:q.1≤4096)(hg:gb k q.2):dM (lf q++r) n k=(q,r,0):=by
 obtain⟨m,w⟩:=q
 simp only at h1 hn h4 hg
 unfold dM lf
 simp only
 rw[List.append_assoc,fN m (by omega)]
 simp only
 rw[List.drop_left' rfl]
 have ho:=oM (v:=w) r hg.2.2 hg.1 (by rw[hg.2.1];exact hk)
 rw[hg.2.1]at ho
 rw[ho]
 simp only
 rw[if_neg (by simp),if_neg (by omega),if_neg (by simp)]
theorem zO{k:Int}(hk:bT k=true):∀(R A:List (Nat×aj)) (f:Nat),Ch (oe none A) R→(∀r∈R,1≤r.1∧r.1≤4096∧gb k r.2)→R.length≤f→tU k f A (lg R) (ey R)=(A++R,[],0)
 |[],A,f,_,_,_=>by cases f<;>simp[tU,lg,ey]
 |r::R,A,0,_,_,hf=>by simp at hf
 |r::R,A,f+1,hc,hg,hf=>by
  obtain⟨g1,g2,g3⟩:=hg r (by simp)
  have e:lg (r::R)=r.1+lg R:=by simp[lg]
  have e2:ey (r::R)=lf r++ey R:=by simp[ey]
  have hn:=BV hk r (r.1+lg R) (ey R) g1 (by omega) g2 g3
  unfold tU
  rw[e,e2,if_neg (by omega),hn]
  simp only
  rw[if_neg (by simp)]
  have hne:¬(A≠[]∧(cL A).2=r.2):=by
   rintro⟨h1,h2⟩
   rw[pa h1,h2]at hc
   exact hc.1 rfl
  rw[if_neg hne,show r.1+lg R-r.1=lg R by omega]
  have:=zO hk R (A++[r]) f (by rw[lO];exact hc.2) (fun x hx=>hg x (by simp[hx])) (by simpa using hf)
  rw[this,List.append_assoc];rfl
theorem sj{l:List aj}{k:Int}(h:aQ l k=0)(hok:∀v∈l,dI v.i):fT (ey (c5 l)) l.length k=(l,0):=by
 obtain⟨hk,hl,hv⟩:=(cx l k).1 h
 have hR:=E3 l
 have hgR:=ng (p:=gb k) (l:=l) fun v hm=>⟨(hv v hm).2,(hv v hm).1,hok v hm⟩
 have hcnt:=kX l l.length
 have hlen:=kW l l.length
 rw[List.take_length]at hcnt hlen
 have hs:lg (c5 l)=l.length:=by rw[←BF,hR.flat]
 have ht:=zO hk (c5 l) [] l.length hR.ch (fun r hr=>⟨hR.one r hr,by have:=hcnt r hr;omega,hgR r hr⟩) hlen
 rw[hs,List.nil_append]at ht
 have hto:dT (ey (c5 l)) l.length k=(c5 l,0):=by
  unfold dT
  rw[if_neg (by simp[hk]),if_neg (by omega),if_neg (by omega),Int.toNat_natCast,ht]
  simp
 unfold fT
 rw[hto]
 simp only
 rw[if_neg (by simp),vq _ (by omega),hR.flat]
theorem qs{l:List aj}{k:Int}(h:aQ l k=0)(hok:∀v∈l,dI v.i):dy (a8 l) l.length k=(l,0):=by
 obtain⟨hk,hl,hv⟩:=(cx l k).1 h
 have:=np hk l [] fun v hm=>⟨(hv v hm).2,(hv v hm).1,hok v hm⟩
 rw[List.append_nil]at this
 unfold dy
 rw[if_neg (by simp[hk]),if_neg (by omega),if_neg (by omega),Int.toNat_natCast,this]
 simp
theorem sQ{l:List aj}(h:aQ l 1=0):∀v∈l,v=ct v.i:=fun v hv=>by
 obtain⟨_,_,hg⟩:=(cx l 1).1 h
 obtain⟨g1,g2⟩:=hg v hv
 exact jD g1 rfl ((jZ g1).1 g2)
theorem Av{l:List aj}{k w:Int}(h:aQ l k=0)(hb:(cj l k w).2=0)(hok:∀v∈l,dI v.i):fU (cj l k w).1 l.length k w=(l,0):=by
 unfold cj at*
 unfold fU
 by_cases h1:w=1
 ·rw[if_pos h1,if_pos h1]
  rw[show iR l k=a8 l from if_pos h]
  exact qs h hok
 rw[if_neg h1,if_neg h1]at*
 by_cases h2:w=2
 ·rw[if_pos h2,if_pos h2]
  rw[show sr l k=ey (c5 l)from if_pos h]
  exact sj h hok
 rw[if_neg h2,if_neg h2]at*
 by_cases h3:w=3
 ·rw[if_pos h3,if_pos h3]
  rw[show lF l k=fb l from if_pos h]
  exact(qS h hok).2
 rw[if_neg h3,if_neg h3]at*
 by_cases h4:w=4∧k=1
 ·rw[if_pos h4,if_pos h4]
  obtain⟨_,rfl⟩:=h4
  by_cases hl:l=[]
  ·subst hl
   simp[kI,sa]
  ·have:=D7 l hl ((cx l 1).1 h).2.1 (sQ h) hok
   simp only[kI]
   rw[if_pos ⟨h,hl⟩,this]
   rfl
 ·rw[if_neg h4]at hb
  simp at hb
def eZ:Nat→List Nat→List Nat→List Nat×List Nat×Int
 |0,b,acc=>(acc,b,0)
 |f+1,b,acc=>if(aN b).2.2≠0 then([],[],(aN b).2.2)else eZ f (b.drop (aN b).2.1) (acc++[min (aN b).1 1048576])
def dR(l:List Nat):Bool:=decide (1≤l.getD 0 0)&&decide (l.getD 0 0≤3)&&decide (l.getD 2 0≤4096)&&decide (l.getD 3 0≤l.getD 2 0)
def Db(l:List Nat):Sg:=⟨(l.getD 0 0:Nat),(l.getD 1 0:Nat),⟨l.getD 2 0,l.getD 3 0,⟨0,0,dH⟩,⟨0,0,dH⟩⟩,[],[]⟩
def eD(b:List Nat):Sg×List Nat×Int:=
 if(eZ 4 b []).2.2≠0 then(A2,[],(eZ 4 b []).2.2)
 else if dR (eZ 4 b []).1=false then(A2,[],4)
 else(Db (eZ 4 b []).1,(eZ 4 b []).2.1,0)
def mY(l:List Nat)(n:Nat):List AV:=(l++List.replicate n 0).map fun(x:Nat)=>iA x
theorem r6:∀(f:Nat) (b acc:List Nat),(eZ f b acc).2.2=0→(eZ f b acc).1.length=acc.length+f
 |0,b,acc,_=>rfl
 |f+1,b,acc,h=>by
  unfold eZ at h⊢
  split at h
  ·rename_i he;exact absurd h he
  ·rename_i he
   rw[if_neg he,r6 f _ _ h]
   simp;omega
theorem mW:∀(f:Nat) (b acc:List Nat),∃j,(eZ f b acc).2.1=b.drop j∨(eZ f b acc).2.1=[]
 |0,b,acc=>⟨0,.inl rfl⟩
 |f+1,b,acc=>by
  unfold eZ
  split
  ·exact⟨0,.inr rfl⟩
  ·obtain⟨j,h⟩:=mW f (b.drop (aN b).2.1) (acc++[min (aN b).1 1048576])
   rcases h with h|h
   ·exact⟨(aN b).2.1+j,.inl (by rw[h,List.drop_drop])⟩
   ·exact⟨0,.inr h⟩
theorem AP(b:List Nat)(hb:∀c∈b,c<256)(hl:b.length≤140737488351232)(H:aa):
  ah Tryz.prog 19 [.d (.list false (aL b))] H (.ok (.bu [.agg (eD b).1.cs,.d (.list false (aL (eD b).2.1)),iA (eD b).2.2])) H:=by
 obtain⟨q,hq⟩:∃q,q=eZ 4 b []:=⟨_,rfl⟩
 have hhp:eD b=if q.2.2≠0 then(A2,[],q.2.2)else if dR q.1=false then(A2,[],4)else(Db q.1,q.2.1,0):=by rw[hq];rfl
 rw[hhp]
 have hql:q.2.2=0→q.1.length=4:=fun h=>by rw[hq]at h⊢;rw[r6 4 b [] h];rfl
 suffices h:ah Tryz.prog 19 [.d (.list false (aL b))] H (.ok (if q.2.2≠0 then .bu [.agg fO,.d (.v (.slice none 0 0)),iA q.2.2]else if dR q.1=false then .bu [.agg fO,.d (.v (.slice none 0 0)),iA 4]
   else .bu [.agg [iA (q.1.getD 0 0:Nat),iA (q.1.getD 1 0:Nat),iA (q.1.getD 2 0:Nat),iA (q.1.getD 3 0:Nat),iA 0,iA 0,sA dH,iA 0,iA 0,sA dH,.d (.v (.slice none 0 0)),.d (.v (.slice none 0 0))],.d (.list false (aL q.2.1)),iA 0])) H by
  by_cases c1:q.2.2≠0
  ·rw[if_pos c1]at h⊢
   exact ah.ck h (.cons fM (.cons .nil (.cons (.refl _) .nil)))
  ·rw[if_neg c1]at h⊢
   by_cases c2:dR q.1=false
   ·rw[if_pos c2]at h⊢
    exact ah.ck h (.cons fM (.cons .nil (.cons (.refl _) .nil)))
   ·rw[if_neg c2]at h⊢
    exact ah.ck h (.cons (.agg (.cons (.refl _) (.cons (.refl _) (.cons (.refl _) (.cons (.refl _) (.cons (.refl _) (.cons (.refl _) (.cons (.refl _) (.cons (.refl _) (.cons (.refl _) (.cons (.refl _) (.cons .nil (.cons .nil .nil))))))))))))) (.cons (.refl _) (.cons (.refl _) .nil)))
 refine ah.bR (hint:=fun _=>false) Tryz.func19 (by kernel_rfl) rfl [.cell 2 30,.tmp 3,.tmp 4] (by kernel_rfl) (by simp[Tryz.ntmps19]) ?_
 rw[Tryz.ntmps19]
 simp -implicitDefEqProofs only[go_sem,eq_self]
 refine bD (fun k s H'=>∃c acc,H'=H++[.box 30 12 0 1 [iA 0,iA 0,iA 0,iA 0,iA 0,iA 0,sA ⟨#[]⟩,iA 0,iA 0,sA ⟨#[]⟩,.d (.v (.slice none 0 0)),.d (.v (.slice none 0 0))],.box 88 4 0 1 (mY acc (4-k))]∧eZ (4-k) c acc=q∧acc.length=k∧c.length≤b.length∧(∀x∈c,x<256)∧(∀x∈acc,x≤1048576)∧s 0= .d (.list false (aL c))∧s 2= .ptr H.length 0 0 0∧s 5= .ptr (H.length+1) 0 0 0∧s 11=iA k) 4 (by omega) (az.refl _ _) ?_ ?_ ?_
 ·refine⟨b,[],rfl,hq.symm,rfl,Nat.le_refl _,hb,by simp,?_⟩
  simp -implicitDefEqProofs only[↓reduceIte,go_sem,Nat.reduceLT,Nat.reduceEqDiff,reduceCtorEq,eq_self]
 ·rintro k s H' hk hw ⟨c,acc,rfl,hF,hal,hcl,hcb,hac,t0,t2,t5,t11⟩
  have hg:=fun H=>mZ c (by omega) hcb H
  have hle:=jH c
  obtain⟨m,hm⟩:∃m,4-k=m+1:=⟨3-k,by omega⟩
  rw[hm]at hF
  unfold eZ at hF
  generalize aN c=g at*
  obtain⟨n,j,e⟩:=g
  simp only at hF hg hle
  simp -implicitDefEqProofs only[↓reduceIte,go_sem,Nat.reduceLT,Nat.reduceEqDiff,reduceCtorEq,eq_self,t0,t11,show((k:Int)<4)=True from eq_true (by omega)]
  refine ae.ok (hg _) ?_
  by_cases he:e=0
  ·subst he
   rw[if_neg (by simp)]at hF
   have hmin:min (n:Int) 1048576=((min n 1048576:Nat):Int):=by omega
   have w1:IntKind.i64.wrap ((min n 1048576:Nat):Int)=((min n 1048576:Nat):Int):=wrap64_in _ (by omega) (by omega)
   have hmle:min n 1048576≤1048576:=by omega
   generalize min n 1048576=y at*
   have hzl:(mY acc (4-k)).length=4:=by simp[mY];omega
   have hset:List.take k (mY acc (4-k))++iA y::List.drop (k+1) (mY acc (4-k))=mY (acc++[y]) (4-(k+1)):=by
    unfold mY
    rw[hm,show 4-(k+1)=m by omega]
    subst hal
    simp[List.replicate_succ,List.drop_append]
   generalize mY acc (4-k)=Z at*
   have htl:List.take c.length (aL c)=aL c:=List.take_of_length_le (Nat.le_of_eq (au c))
   have hdj:List.drop j (aL c)=aL (c.drop j):=by unfold aL;rw[List.map_drop]
   simp -implicitDefEqProofs only[↓reduceIte,go_sem,aq,Nat.reduceLT,Nat.reduceLeDiff,Nat.reduceEqDiff,reduceCtorEq,eq_self,t0,t5,t11,hmin,w1,hzl,show((k:Int)<4)=True from eq_true (by omega),show k≤3 by omega,hset,aS,au,htl,hdj]
   refine⟨by omega,?_⟩
   refine fj.same ⟨c.drop j,acc++[y],rfl,by rw[show 4-(k+1)=m by omega];exact hF,by simp[hal],by rw[List.length_drop];omega,fun x hx=>hcb x (List.mem_of_mem_drop hx),?_,?_⟩
   ·intro x hx
    rcases List.mem_append.1 hx with h|h
    ·exact hac x h
    ·rw[List.mem_singleton.1 h];exact hmle
   ·simp -implicitDefEqProofs only[↓reduceIte,go_sem,Nat.reduceLT,Nat.reduceEqDiff,reduceCtorEq,eq_self,t2,t5,hw]
  ·rw[if_pos he]at hF
   have hq2:q.2.2=e:=by rw[←hF]
   simp -implicitDefEqProofs only[↓reduceIte,go_sem,aq,Nat.reduceAdd,Nat.reduceLT,Nat.reduceEqDiff,eq_self,he,t2]
   rw[hq2,if_pos he]
   refine bG.ret ?_
   simp -implicitDefEqProofs only[↓reduceIte,go_sem,ai,Nat.reduceAdd,Nat.reduceLT,Nat.reduceLeDiff,Nat.reduceEqDiff,eq_self,aO,bP,t2,fO,dH]
 ·rintro s H' ⟨c,acc,rfl,hF,hal,hcl,hcb,hac,t0,t2,t5,t11⟩
  have hq1:q=(acc,c,0):=hF.symm
  rw[hq1]
  obtain⟨a0,a1,a2,a3,rfl⟩:∃a0 a1 a2 a3,acc=[a0,a1,a2,a3]:=by
   match acc,hal with
   |[a0,a1,a2,a3],_=>exact⟨_,_,_,_,rfl⟩
  have hz:mY [a0,a1,a2,a3] (4-4)=[iA a0,iA a1,iA a2,iA a3]:=rfl
  rw[hz]
  rw[if_neg (by simp)]
  simp only[List.getD_eq_getElem?_getD,List.getElem?_cons_zero,List.getElem?_cons_succ,Option.getD_some]
  simp -implicitDefEqProofs only[↓reduceIte,go_sem,ai,aq,Nat.reduceAdd,Nat.reduceLT,Nat.reduceLeDiff,Nat.reduceEqDiff,Int.reduceLE,Int.reduceLT,Int.reduceToNat,eq_self,t5,t11]
  by_cases h1:a0<1
  ·have hno:dR [a0,a1,a2,a3]=false:=by unfold dR;simp;omega
   rw[if_pos hno]
   simp -implicitDefEqProofs only[↓reduceIte,go_sem,aq,Nat.reduceAdd,Nat.reduceLT,Nat.reduceEqDiff,eq_self,show((a0:Int)<1)=True from eq_true (by omega),t2]
   refine bG.ret ?_
   simp -implicitDefEqProofs only[↓reduceIte,go_sem,ai,Nat.reduceAdd,Nat.reduceLT,Nat.reduceLeDiff,Nat.reduceEqDiff,eq_self,aO,bP,t2,fO,dH]
  by_cases h2:3<a0
  ·have hno:dR [a0,a1,a2,a3]=false:=by unfold dR;simp;omega
   rw[if_pos hno]
   simp -implicitDefEqProofs only[↓reduceIte,go_sem,ai,aq,Nat.reduceAdd,Nat.reduceLT,Nat.reduceLeDiff,Nat.reduceEqDiff,reduceCtorEq,eq_self,show((a0:Int)<1)=False from eq_false (by omega),show((3:Int)<(a0:Int))=True from eq_true (by omega),t2]
   refine bG.ret ?_
   simp -implicitDefEqProofs only[↓reduceIte,go_sem,ai,Nat.reduceAdd,Nat.reduceLT,Nat.reduceLeDiff,Nat.reduceEqDiff,eq_self,aO,bP,t2,fO,dH]
  by_cases h3:4096<a2
  ·have hno:dR [a0,a1,a2,a3]=false:=by unfold dR;simp;omega
   rw[if_pos hno]
   simp -implicitDefEqProofs only[↓reduceIte,go_sem,ai,aq,Nat.reduceAdd,Nat.reduceLT,Nat.reduceLeDiff,Nat.reduceEqDiff,reduceCtorEq,eq_self,show((a0:Int)<1)=False from eq_false (by omega),show((3:Int)<(a0:Int))=False from eq_false (by omega),show((4096:Int)<(a2:Int))=True from eq_true (by omega),t2]
   refine bG.ret ?_
   simp -implicitDefEqProofs only[↓reduceIte,go_sem,ai,Nat.reduceAdd,Nat.reduceLT,Nat.reduceLeDiff,Nat.reduceEqDiff,eq_self,aO,bP,t2,fO,dH]
  by_cases h4:a2<a3
  ·have hno:dR [a0,a1,a2,a3]=false:=by unfold dR;simp;omega
   rw[if_pos hno]
   simp -implicitDefEqProofs only[↓reduceIte,go_sem,ai,aq,Nat.reduceAdd,Nat.reduceLT,Nat.reduceLeDiff,Nat.reduceEqDiff,reduceCtorEq,eq_self,show((a0:Int)<1)=False from eq_false (by omega),show((3:Int)<(a0:Int))=False from eq_false (by omega),show((4096:Int)<(a2:Int))=False from eq_false (by omega),show((a2:Int)<(a3:Int))=True from eq_true (by omega),t2]
   refine bG.ret ?_
   simp -implicitDefEqProofs only[↓reduceIte,go_sem,ai,Nat.reduceAdd,Nat.reduceLT,Nat.reduceLeDiff,Nat.reduceEqDiff,eq_self,aO,bP,t2,fO,dH]
  have hyes:dR [a0,a1,a2,a3]=true:=by unfold dR;simp;omega
  rw[if_neg (by rw[hyes];simp)]
  simp -implicitDefEqProofs only[↓reduceIte,go_sem,ai,aq,Nat.reduceAdd,Nat.reduceLT,Nat.reduceLeDiff,Nat.reduceEqDiff,reduceCtorEq,eq_self,show((a0:Int)<1)=False from eq_false (by omega),show((3:Int)<(a0:Int))=False from eq_false (by omega),show((4096:Int)<(a2:Int))=False from eq_false (by omega),show((a2:Int)<(a3:Int))=False from eq_false (by omega),t0,t2]
  refine bG.ret ?_
  simp -implicitDefEqProofs only[↓reduceIte,go_sem,ai,Nat.reduceAdd,Nat.reduceLT,Nat.reduceLeDiff,Nat.reduceEqDiff,eq_self,aO,bP,t2,dH]
def jR(s:Sg)(b:List Nat):Sg×List Nat×Int:=
 if s.aP.aB=s.aP.rows then(s,b,0)
 else
  if(dG b s.kind).2.2≠0 then(⟨s.kind,s.aR,⟨s.aP.rows,s.aP.aB,(dG b s.kind).1,s.aP.mx⟩,s.aB,s.body⟩,[],(dG b s.kind).2.2)
  else if(dG (dG b s.kind).2.1 s.kind).2.2≠0 then(⟨s.kind,s.aR,⟨s.aP.rows,s.aP.aB,(dG b s.kind).1,(dG (dG b s.kind).2.1 s.kind).1⟩,s.aB,s.body⟩,[],(dG (dG b s.kind).2.1 s.kind).2.2)
  else(⟨s.kind,s.aR,⟨s.aP.rows,s.aP.aB,(dG b s.kind).1,(dG (dG b s.kind).2.1 s.kind).1⟩,s.aB,s.body⟩,(dG (dG b s.kind).2.1 s.kind).2.1,0)
def fA(s:Sg)(l:List Bool):Sg:=⟨s.kind,s.aR,s.aP,l,s.body⟩
def eS(s:Sg)(b:List Nat):Sg×List Nat×Int:=
 if s.aP.aB=0 then jR s b
 else if b.length<(s.aP.rows+7)/8 then(s,[],3)
 else if bO (b.take ((s.aP.rows+7)/8)) s.aP.rows 1≠0 then(fA s [],[],bO (b.take ((s.aP.rows+7)/8)) s.aP.rows 1)
 else jR (fA s (uW (b.take ((s.aP.rows+7)/8)) s.aP.rows)) (b.drop ((s.aP.rows+7)/8))
abbrev sB(s:Sg):aE:= .box 30 12 0 1 s.cs
theorem xU(s:Sg)(b:List Nat)(hr:s.aP.rows≤1000000)(hb:∀c∈b,c<256)(hl:b.length≤140737488351232)(G:aa)(id:Nat)(hG:G[id]?=some (sB s)):
  ah Tryz.prog 20 [.ptr id 0 0 0,.d (.list false (aL b))] G (.ok (.bu [.d (.list false (aL (eS s b).2.1)),iA (eS s b).2.2])) (G.set id (sB (eS s b).1)):=by
 obtain⟨sk,sc,⟨zr,zn,zmn,zmx⟩,ns,bd⟩:=s
 simp only at hr
 unfold sB Sg.cs at hG
 simp only at hG
 unfold eS
 simp only
 by_cases h0:zn=0
 ·rw[if_pos h0]
  subst h0
  obtain⟨G1,hGG⟩:∃G1,G1=G:=⟨_,rfl⟩
  have hG1:G1[id]?=some (.box 30 12 0 1 [iA sk,iA sc,iA zr,iA (0:Nat),iA zmn.kind,iA zmn.i,sA zmn.s,iA zmx.kind,iA zmx.i,sA zmx.s,.d (.list false (bZ ns)),.d (.list false (aL bd))]):=by rw[hGG];exact hG
  rw[←hGG]
  clear hG hGG
  have hB:=hb
  have s1:∀o:aE,(G1.set id o)[id]?=some o:=fun o=>by rw[List.getElem?_set_self (aw hG1)]
  have s2:∀o o':aE,(G1.set id o).set id o'=G1.set id o':=fun o o'=>List.set_set ..
  have v1:=fun H=>eL b sk (by omega) hB H
  unfold jR
  simp only
  by_cases h1:0=zr
  ·have h1t:((0:Int)=(zr:Int))=True:=eq_true (by omega)
   have hsame:G1.set id (.box 30 12 0 1 [iA sk,iA sc,iA zr,iA (0:Nat),iA zmn.kind,iA zmn.i,sA zmn.s,iA zmx.kind,iA zmx.i,sA zmx.s,.d (.list false (bZ ns)),.d (.list false (aL bd))])=G1:=by
    obtain⟨hl,hx⟩:=List.getElem?_eq_some_iff.1 hG1
    rw[←hx];exact List.set_getElem_self hl
   rw[if_pos h1]
   unfold sB Sg.cs
   simp only
   rw[hsame]
   refine ah.ao (hint:=(fun _=>false)) Tryz.func20 (by kernel_rfl) rfl [4,5] (by kernel_rfl) (by decide) (by simp[Tryz.ntmps20]) ?_
   rw[Tryz.ntmps20]
   simp -implicitDefEqProofs only[↓reduceIte,go_sem,ai,Nat.reduceAdd,Nat.reduceLT,Nat.reduceLeDiff,Int.reduceLT,reduceCtorEq,eq_self,hG1]
   refine bQ K.mixed (by kernel_rfl) ?_
   simp -implicitDefEqProofs only[↓reduceIte,go_sem,ai,Nat.reduceAdd,Nat.reduceLT,Nat.reduceLeDiff,Nat.reduceEqDiff,reduceCtorEq,eq_self,hG1,h1t]
   exact⟨_,az.refl _ _,by simp -implicitDefEqProofs only[↓reduceIte,go_sem,Nat.reduceLT,Nat.reduceEqDiff,eq_self]⟩
  have h1f:((0:Int)=(zr:Int))=False:=eq_false (by omega)
  rw[if_neg h1]
  obtain⟨j1,hj1⟩:=dX b sk
  generalize dG b sk=x1 at*
  obtain⟨mn,r1,e1⟩:=x1
  simp only at v1 hj1
  subst hj1
  by_cases he1:e1≠0
  ·rw[if_pos he1]
   unfold sB Sg.cs
   simp only
   refine ah.ck (cs:=[.d (.v (.slice none 0 0)),iA e1]) ?_ (.cons .nil (.cons (.refl _) .nil))
   refine ah.ao (hint:=(fun _=>false)) Tryz.func20 (by kernel_rfl) rfl [4,5] (by kernel_rfl) (by decide) (by simp[Tryz.ntmps20]) ?_
   rw[Tryz.ntmps20]
   simp -implicitDefEqProofs only[↓reduceIte,go_sem,ai,Nat.reduceAdd,Nat.reduceLT,Nat.reduceLeDiff,Int.reduceLT,reduceCtorEq,eq_self,hG1]
   refine bQ K.mixed (by kernel_rfl) ?_
   simp -implicitDefEqProofs only[↓reduceIte,go_sem,ai,Nat.reduceAdd,Nat.reduceLT,Nat.reduceLeDiff,Nat.reduceEqDiff,reduceCtorEq,eq_self,hG1,h1f]
   refine ae.ok (v1 _) ?_
   simp -implicitDefEqProofs only[↓reduceIte,go_sem,aq,Nat.reduceAdd,Nat.reduceLT,Nat.reduceLeDiff,Nat.reduceEqDiff,eq_self,hG1,he1]
   exact⟨_,az.refl _ _,by simp -implicitDefEqProofs only[↓reduceIte,go_sem,Nat.reduceLT,Nat.reduceEqDiff,eq_self]⟩
  rw[if_neg he1]
  obtain rfl:e1=0:=by simpa using he1
  have v2:=fun H=>eL (List.drop j1 b) sk (by rw[List.length_drop];omega) (fun x hx=>hB x (List.mem_of_mem_drop hx)) H
  generalize dG (List.drop j1 b) sk=x2 at*
  obtain⟨mx,r2,e2⟩:=x2
  simp only at v2
  by_cases he2:e2≠0
  ·rw[if_pos he2]
   unfold sB Sg.cs
   simp only
   refine ah.ck (cs:=[.d (.v (.slice none 0 0)),iA e2]) ?_ (.cons .nil (.cons (.refl _) .nil))
   refine ah.ao (hint:=(fun _=>false)) Tryz.func20 (by kernel_rfl) rfl [4,5] (by kernel_rfl) (by decide) (by simp[Tryz.ntmps20]) ?_
   rw[Tryz.ntmps20]
   simp -implicitDefEqProofs only[↓reduceIte,go_sem,ai,Nat.reduceAdd,Nat.reduceLT,Nat.reduceLeDiff,Int.reduceLT,reduceCtorEq,eq_self,hG1]
   refine bQ K.mixed (by kernel_rfl) ?_
   simp -implicitDefEqProofs only[↓reduceIte,go_sem,ai,Nat.reduceAdd,Nat.reduceLT,Nat.reduceLeDiff,Nat.reduceEqDiff,reduceCtorEq,eq_self,hG1,h1f]
   refine ae.ok (v1 _) ?_
   simp -implicitDefEqProofs only[↓reduceIte,go_sem,ai,aq,Nat.reduceAdd,Nat.reduceLT,Nat.reduceLeDiff,Nat.reduceEqDiff,reduceCtorEq,eq_self,hG1,s1]
   refine ae.ok (v2 _) ?_
   simp -implicitDefEqProofs only[↓reduceIte,go_sem,aq,Nat.reduceAdd,Nat.reduceLT,Nat.reduceLeDiff,Nat.reduceEqDiff,eq_self,s1,s2,he2]
   exact⟨_,az.refl _ _,by simp -implicitDefEqProofs only[↓reduceIte,go_sem,Nat.reduceLT,Nat.reduceEqDiff,eq_self]⟩
  rw[if_neg he2]
  obtain rfl:e2=0:=by simpa using he2
  unfold sB Sg.cs
  simp only
  refine ah.ao (hint:=(fun _=>false)) Tryz.func20 (by kernel_rfl) rfl [4,5] (by kernel_rfl) (by decide) (by simp[Tryz.ntmps20]) ?_
  rw[Tryz.ntmps20]
  simp -implicitDefEqProofs only[↓reduceIte,go_sem,ai,Nat.reduceAdd,Nat.reduceLT,Nat.reduceLeDiff,Int.reduceLT,reduceCtorEq,eq_self,hG1]
  refine bQ K.mixed (by kernel_rfl) ?_
  simp -implicitDefEqProofs only[↓reduceIte,go_sem,ai,Nat.reduceAdd,Nat.reduceLT,Nat.reduceLeDiff,Nat.reduceEqDiff,reduceCtorEq,eq_self,hG1,h1f]
  refine ae.ok (v1 _) ?_
  simp -implicitDefEqProofs only[↓reduceIte,go_sem,ai,aq,Nat.reduceAdd,Nat.reduceLT,Nat.reduceLeDiff,Nat.reduceEqDiff,reduceCtorEq,eq_self,hG1,s1]
  refine ae.ok (v2 _) ?_
  simp -implicitDefEqProofs only[↓reduceIte,go_sem,aq,Nat.reduceAdd,Nat.reduceLT,Nat.reduceLeDiff,Nat.reduceEqDiff,eq_self,s1,s2]
  exact⟨_,az.refl _ _,by simp -implicitDefEqProofs only[↓reduceIte,go_sem,Nat.reduceLT,Nat.reduceEqDiff,eq_self]⟩
 rw[if_neg h0]
 have h0t:((0:Int)<(zn:Int))=True:=eq_true (by omega)
 have w1:IntKind.i64.wrap ((zr:Int)+8)=(zr:Int)+8:=wrap64_in _ (by omega) (by omega)
 have w2:IntKind.i64.wrap ((zr:Int)+8-1)=((zr+7:Nat):Int):=by rw[wrap64_in _ (by omega) (by omega)];omega
 have w3:IntKind.i64.wrap (((zr+7:Nat):Int).tdiv 8)=(((zr+7)/8:Nat):Int):=by
  rw[show((zr+7:Nat):Int).tdiv 8=(((zr+7)/8:Nat):Int)from rfl]
  exact wrap64_in _ (by omega) (by omega)
 obtain⟨y,hy⟩:∃y,y=zr+7:=⟨_,rfl⟩
 obtain⟨n,hn⟩:∃n,n=(zr+7)/8:=⟨_,rfl⟩
 rw[←hn,←hy]at w3
 rw[←hy]at w2
 rw[←hn]
 by_cases h1:b.length<n
 ·rw[if_pos h1]
  unfold sB Sg.cs
  simp only
  have hsame:G.set id (.box 30 12 0 1 [iA sk,iA sc,iA zr,iA zn,iA zmn.kind,iA zmn.i,sA zmn.s,iA zmx.kind,iA zmx.i,sA zmx.s,.d (.list false (bZ ns)),.d (.list false (aL bd))])=G:=by
   obtain⟨hl,hx⟩:=List.getElem?_eq_some_iff.1 hG
   rw[←hx];exact List.set_getElem_self hl
  rw[hsame]
  refine ah.ck (cs:=[.d (.v (.slice none 0 0)),iA 3]) ?_ (.cons .nil (.cons (.refl _) .nil))
  refine ah.ao (hint:=(fun _=>false)) Tryz.func20 (by kernel_rfl) rfl [4,5] (by kernel_rfl) (by decide) (by simp[Tryz.ntmps20]) ?_
  rw[Tryz.ntmps20]
  simp -implicitDefEqProofs only[↓reduceIte,go_sem,ai,Nat.reduceAdd,Nat.reduceLT,Nat.reduceLeDiff,Nat.reduceEqDiff,Int.reduceEq,reduceCtorEq,eq_self,hG,h0t,w1,w2,w3,au,show((b.length:Int)<(n:Int))=True from eq_true (by omega)]
  exact⟨_,az.refl _ _,by simp -implicitDefEqProofs only[↓reduceIte,go_sem,Nat.reduceLT,Nat.reduceEqDiff,eq_self]⟩
 rw[if_neg h1]
 have h1f:((b.length:Int)<(n:Int))=False:=eq_false (by omega)
 have htk:List.take n (aL b)=aL (b.take n):=by unfold aL;rw[List.map_take]
 have hdk:List.drop n (aL b)=aL (b.drop n):=by unfold aL;rw[List.map_drop]
 have hof:=fun H=>EC (b.take n) zr (by rw[List.length_take];omega) (fun x hx=>hb x (List.mem_of_mem_take hx)) (by omega) H
 generalize bO (b.take n) zr 1=e at*
 generalize uW (b.take n) zr=L at*
 by_cases he:e≠0
 ·rw[if_pos he]
  rw[if_neg he]at hof
  unfold fA sB Sg.cs
  simp only
  refine ah.ck (cs:=[.d (.v (.slice none 0 0)),iA e]) ?_ (.cons .nil (.cons (.refl _) .nil))
  refine ah.ao (hint:=(fun _=>false)) Tryz.func20 (by kernel_rfl) rfl [4,5] (by kernel_rfl) (by decide) (by simp[Tryz.ntmps20]) ?_
  rw[Tryz.ntmps20]
  simp -implicitDefEqProofs only[↓reduceIte,go_sem,ai,Nat.reduceAdd,Nat.reduceLT,Nat.reduceLeDiff,Nat.reduceEqDiff,Int.reduceEq,reduceCtorEq,eq_self,hG,h0t,w1,w2,w3,au,h1f]
  refine dC [some false,some false,some false,some false,some false,some false,some false,some false,some false,some true,some false,some false,some false,some true,some true,some true] 9 [] K.mixed (by kernel_rfl) (by kernel_rfl) (by kernel_rfl) (fun _ _ h=>by simp at h) ?_
  simp -implicitDefEqProofs only[↓reduceIte,go_sem,ai,Nat.reduceAdd,Nat.reduceLT,Nat.reduceLeDiff,Nat.reduceEqDiff,Int.reduceLE,Int.reduceToNat,reduceCtorEq,eq_self,hG,aS,au,htk]
  refine⟨by omega,?_⟩
  refine ae.ok (hof _) ?_
  simp -implicitDefEqProofs only[↓reduceIte,go_sem,aq,Nat.reduceAdd,Nat.reduceLT,Nat.reduceLeDiff,Nat.reduceEqDiff,eq_self,hG,Ext.nil,he]
  exact⟨_,az.refl _ _,by simp -implicitDefEqProofs only[↓reduceIte,go_sem,Nat.reduceLT,Nat.reduceEqDiff,eq_self]⟩
 rw[if_neg he]
 obtain rfl:e=0:=by simpa using he
 rw[if_pos rfl]at hof
 unfold fA
 have z1:∀o:aE,(G.set id o)[id]?=some o:=fun o=>by rw[List.getElem?_set_self (aw hG)]
 obtain⟨G1,hGG⟩:∃G1,G.set id (.box 30 12 0 1 [iA sk,iA sc,iA zr,iA zn,iA zmn.kind,iA zmn.i,sA zmn.s,iA zmx.kind,iA zmx.i,sA zmx.s,.d (.list false (bZ L)),.d (.list false (aL bd))])=G1:=⟨_,rfl⟩
 have hG1:G1[id]?=some (.box 30 12 0 1 [iA sk,iA sc,iA zr,iA zn,iA zmn.kind,iA zmn.i,sA zmn.s,iA zmx.kind,iA zmx.i,sA zmx.s,.d (.list false (bZ L)),.d (.list false (aL bd))]):=by rw[←hGG];exact z1 _
 have hset:∀o:aE,G.set id o=G1.set id o:=fun o=>by rw[←hGG,List.set_set]
 rw[hset]
 have hbn:(n:Int)≤(b.length:Int):=by omega
 have htb:List.take b.length (aL b)=aL b:=List.take_of_length_le (Nat.le_of_eq (au b))
 have hB:∀c∈b.drop n,c<256:=fun c hc=>hb c (List.mem_of_mem_drop hc)
 have hbdl:(b.drop n).length≤b.length:=by rw[List.length_drop];omega
 generalize hbd:b.drop n=b2 at*
 have s1:∀o:aE,(G1.set id o)[id]?=some o:=fun o=>by rw[List.getElem?_set_self (aw hG1)]
 have s2:∀o o':aE,(G1.set id o).set id o'=G1.set id o':=fun o o'=>List.set_set ..
 have v1:=fun H=>eL b2 sk (by omega) hB H
 unfold jR
 simp only
 by_cases hz1:zn=zr
 ·have hzt:((zn:Int)=(zr:Int))=True:=eq_true (by omega)
  have hsame:G1.set id (.box 30 12 0 1 [iA sk,iA sc,iA zr,iA zn,iA zmn.kind,iA zmn.i,sA zmn.s,iA zmx.kind,iA zmx.i,sA zmx.s,.d (.list false (bZ L)),.d (.list false (aL bd))])=G1:=by
   obtain⟨hl,hx⟩:=List.getElem?_eq_some_iff.1 hG1
   rw[←hx];exact List.set_getElem_self hl
  rw[if_pos hz1]
  unfold sB Sg.cs
  simp only
  rw[hsame]
  refine ah.ao (hint:=(fun _=>false)) Tryz.func20 (by kernel_rfl) rfl [4,5] (by kernel_rfl) (by decide) (by simp[Tryz.ntmps20]) ?_
  rw[Tryz.ntmps20]
  simp -implicitDefEqProofs only[↓reduceIte,go_sem,ai,Nat.reduceAdd,Nat.reduceLT,Nat.reduceLeDiff,Nat.reduceEqDiff,Int.reduceEq,reduceCtorEq,eq_self,hG,h0t,w1,w2,w3,au,h1f]
  refine dC [some false,some false,some false,some false,some false,some false,some false,some false,some false,some true,some false,some false,some false,some true,some true,some true] 9 [] K.mixed (by kernel_rfl) (by kernel_rfl) (by kernel_rfl) (fun _ _ h=>by simp at h) ?_
  simp -implicitDefEqProofs only[↓reduceIte,go_sem,ai,Nat.reduceAdd,Nat.reduceLT,Nat.reduceLeDiff,Nat.reduceEqDiff,Int.reduceLE,Int.reduceToNat,reduceCtorEq,eq_self,hG,aS,au,htk]
  refine⟨by omega,?_⟩
  refine ae.ok (hof _) ?_
  simp -implicitDefEqProofs only[↓reduceIte,go_sem,aq,Nat.reduceAdd,Nat.reduceLT,Nat.reduceLeDiff,Nat.reduceEqDiff,eq_self,hG,Ext.nil,hbn,htb,hdk,au,aS]
  rw[hGG]
  simp -implicitDefEqProofs only[go_sem]
  refine bQ K.mixed (by kernel_rfl) ?_
  simp -implicitDefEqProofs only[↓reduceIte,go_sem,ai,Nat.reduceAdd,Nat.reduceLT,Nat.reduceLeDiff,Nat.reduceEqDiff,reduceCtorEq,eq_self,hG1,hzt]
  exact⟨_,az.refl _ _,by simp -implicitDefEqProofs only[↓reduceIte,go_sem,Nat.reduceLT,Nat.reduceEqDiff,eq_self]⟩
 have hzf:((zn:Int)=(zr:Int))=False:=eq_false (by omega)
 rw[if_neg hz1]
 obtain⟨j1,hj1⟩:=dX b2 sk
 generalize dG b2 sk=x1 at*
 obtain⟨mn,r1,e1⟩:=x1
 simp only at v1 hj1
 subst hj1
 by_cases he1:e1≠0
 ·rw[if_pos he1]
  unfold sB Sg.cs
  simp only
  refine ah.ck (cs:=[.d (.v (.slice none 0 0)),iA e1]) ?_ (.cons .nil (.cons (.refl _) .nil))
  refine ah.ao (hint:=(fun _=>false)) Tryz.func20 (by kernel_rfl) rfl [4,5] (by kernel_rfl) (by decide) (by simp[Tryz.ntmps20]) ?_
  rw[Tryz.ntmps20]
  simp -implicitDefEqProofs only[↓reduceIte,go_sem,ai,Nat.reduceAdd,Nat.reduceLT,Nat.reduceLeDiff,Nat.reduceEqDiff,Int.reduceEq,reduceCtorEq,eq_self,hG,h0t,w1,w2,w3,au,h1f]
  refine dC [some false,some false,some false,some false,some false,some false,some false,some false,some false,some true,some false,some false,some false,some true,some true,some true] 9 [] K.mixed (by kernel_rfl) (by kernel_rfl) (by kernel_rfl) (fun _ _ h=>by simp at h) ?_
  simp -implicitDefEqProofs only[↓reduceIte,go_sem,ai,Nat.reduceAdd,Nat.reduceLT,Nat.reduceLeDiff,Nat.reduceEqDiff,Int.reduceLE,Int.reduceToNat,reduceCtorEq,eq_self,hG,aS,au,htk]
  refine⟨by omega,?_⟩
  refine ae.ok (hof _) ?_
  simp -implicitDefEqProofs only[↓reduceIte,go_sem,aq,Nat.reduceAdd,Nat.reduceLT,Nat.reduceLeDiff,Nat.reduceEqDiff,eq_self,hG,Ext.nil,hbn,htb,hdk,au,aS]
  rw[hGG]
  simp -implicitDefEqProofs only[go_sem]
  refine bQ K.mixed (by kernel_rfl) ?_
  simp -implicitDefEqProofs only[↓reduceIte,go_sem,ai,Nat.reduceAdd,Nat.reduceLT,Nat.reduceLeDiff,Nat.reduceEqDiff,reduceCtorEq,eq_self,hG1,hzf]
  refine ae.ok (v1 _) ?_
  simp -implicitDefEqProofs only[↓reduceIte,go_sem,aq,Nat.reduceAdd,Nat.reduceLT,Nat.reduceLeDiff,Nat.reduceEqDiff,eq_self,hG1,he1]
  exact⟨_,az.refl _ _,by simp -implicitDefEqProofs only[↓reduceIte,go_sem,Nat.reduceLT,Nat.reduceEqDiff,eq_self]⟩
 rw[if_neg he1]
 obtain rfl:e1=0:=by simpa using he1
 have v2:=fun H=>eL (List.drop j1 b2) sk (by rw[List.length_drop];omega) (fun x hx=>hB x (List.mem_of_mem_drop hx)) H
 generalize dG (List.drop j1 b2) sk=x2 at*
 obtain⟨mx,r2,e2⟩:=x2
 simp only at v2
 by_cases he2:e2≠0
 ·rw[if_pos he2]
  unfold sB Sg.cs
  simp only
  refine ah.ck (cs:=[.d (.v (.slice none 0 0)),iA e2]) ?_ (.cons .nil (.cons (.refl _) .nil))
  refine ah.ao (hint:=(fun _=>false)) Tryz.func20 (by kernel_rfl) rfl [4,5] (by kernel_rfl) (by decide) (by simp[Tryz.ntmps20]) ?_
  rw[Tryz.ntmps20]
  simp -implicitDefEqProofs only[↓reduceIte,go_sem,ai,Nat.reduceAdd,Nat.reduceLT,Nat.reduceLeDiff,Nat.reduceEqDiff,Int.reduceEq,reduceCtorEq,eq_self,hG,h0t,w1,w2,w3,au,h1f]
  refine dC [some false,some false,some false,some false,some false,some false,some false,some false,some false,some true,some false,some false,some false,some true,some true,some true] 9 [] K.mixed (by kernel_rfl) (by kernel_rfl) (by kernel_rfl) (fun _ _ h=>by simp at h) ?_
  simp -implicitDefEqProofs only[↓reduceIte,go_sem,ai,Nat.reduceAdd,Nat.reduceLT,Nat.reduceLeDiff,Nat.reduceEqDiff,Int.reduceLE,Int.reduceToNat,reduceCtorEq,eq_self,hG,aS,au,htk]
  refine⟨by omega,?_⟩
  refine ae.ok (hof _) ?_
  simp -implicitDefEqProofs only[↓reduceIte,go_sem,aq,Nat.reduceAdd,Nat.reduceLT,Nat.reduceLeDiff,Nat.reduceEqDiff,eq_self,hG,Ext.nil,hbn,htb,hdk,au,aS]
  rw[hGG]
  simp -implicitDefEqProofs only[go_sem]
  refine bQ K.mixed (by kernel_rfl) ?_
  simp -implicitDefEqProofs only[↓reduceIte,go_sem,ai,Nat.reduceAdd,Nat.reduceLT,Nat.reduceLeDiff,Nat.reduceEqDiff,reduceCtorEq,eq_self,hG1,hzf]
  refine ae.ok (v1 _) ?_
  simp -implicitDefEqProofs only[↓reduceIte,go_sem,ai,aq,Nat.reduceAdd,Nat.reduceLT,Nat.reduceLeDiff,Nat.reduceEqDiff,reduceCtorEq,eq_self,hG1,s1]
  refine ae.ok (v2 _) ?_
  simp -implicitDefEqProofs only[↓reduceIte,go_sem,aq,Nat.reduceAdd,Nat.reduceLT,Nat.reduceLeDiff,Nat.reduceEqDiff,eq_self,s1,s2,he2]
  exact⟨_,az.refl _ _,by simp -implicitDefEqProofs only[↓reduceIte,go_sem,Nat.reduceLT,Nat.reduceEqDiff,eq_self]⟩
 rw[if_neg he2]
 obtain rfl:e2=0:=by simpa using he2
 unfold sB Sg.cs
 simp only
 refine ah.ao (hint:=(fun _=>false)) Tryz.func20 (by kernel_rfl) rfl [4,5] (by kernel_rfl) (by decide) (by simp[Tryz.ntmps20]) ?_
 rw[Tryz.ntmps20]
 simp -implicitDefEqProofs only[↓reduceIte,go_sem,ai,Nat.reduceAdd,Nat.reduceLT,Nat.reduceLeDiff,Nat.reduceEqDiff,Int.reduceEq,reduceCtorEq,eq_self,hG,h0t,w1,w2,w3,au,h1f]
 refine dC [some false,some false,some false,some false,some false,some false,some false,some false,some false,some true,some false,some false,some false,some true,some true,some true] 9 [] K.mixed (by kernel_rfl) (by kernel_rfl) (by kernel_rfl) (fun _ _ h=>by simp at h) ?_
 simp -implicitDefEqProofs only[↓reduceIte,go_sem,ai,Nat.reduceAdd,Nat.reduceLT,Nat.reduceLeDiff,Nat.reduceEqDiff,Int.reduceLE,Int.reduceToNat,reduceCtorEq,eq_self,hG,aS,au,htk]
 refine⟨by omega,?_⟩
 refine ae.ok (hof _) ?_
 simp -implicitDefEqProofs only[↓reduceIte,go_sem,aq,Nat.reduceAdd,Nat.reduceLT,Nat.reduceLeDiff,Nat.reduceEqDiff,eq_self,hG,Ext.nil,hbn,htb,hdk,au,aS]
 rw[hGG]
 simp -implicitDefEqProofs only[go_sem]
 refine bQ K.mixed (by kernel_rfl) ?_
 simp -implicitDefEqProofs only[↓reduceIte,go_sem,ai,Nat.reduceAdd,Nat.reduceLT,Nat.reduceLeDiff,Nat.reduceEqDiff,reduceCtorEq,eq_self,hG1,hzf]
 refine ae.ok (v1 _) ?_
 simp -implicitDefEqProofs only[↓reduceIte,go_sem,ai,aq,Nat.reduceAdd,Nat.reduceLT,Nat.reduceLeDiff,Nat.reduceEqDiff,reduceCtorEq,eq_self,hG1,s1]
 refine ae.ok (v2 _) ?_
 simp -implicitDefEqProofs only[↓reduceIte,go_sem,aq,Nat.reduceAdd,Nat.reduceLT,Nat.reduceLeDiff,Nat.reduceEqDiff,eq_self,s1,s2]
 exact⟨_,az.refl _ _,by simp -implicitDefEqProofs only[↓reduceIte,go_sem,Nat.reduceLT,Nat.reduceEqDiff,eq_self]⟩
theorem mM{P:Program}{w:World}{d c i:Nat}{e:TypeId}{xs ys:Array Value}{is:List Nat}{a b:Value}{q r:Bool}(ha:(part e xs (i* c)).run P w= .ok a w)(hb:(part e ys (i* c)).run P w= .ok b w)(he:(Op.equalIn d e a b).run P w= .ok q w)
  (hr:(Op.eqItems d e c xs ys is).run P w= .ok r w):(Op.eqItems d e c xs ys (i::is)).run P w= .ok (q&&r) w:=by
 simp only[Op.eqItems,Sem.run_bind,ha,hb,he,Result.andThen_ok]
 cases q
 ·simp
 ·simpa using hr
abbrev a4(a b c d:Int):Value:= .agg #[.int .u8 a,.int .u8 b,.int .u8 c,.int .u8 d]
theorem Ee(w:World)(a b c d a' b' c' d':Int):(Op.eqItems 9999 5 1 #[.int .u8 a,.int .u8 b,.int .u8 c,.int .u8 d] #[.int .u8 a',.int .u8 b',.int .u8 c',.int .u8 d'] [0,1,2,3]).run Tryz.prog w= .ok ((a==a')&&((b==b')&&((c==c')&&((d==d')&&true)))) w:=by
 have st:=fun x y=>run_equalIn_int w 9998 5 .u8 .u8 x y (UK.get K.JN)
 exact mM (dJ K.tW rfl) (dJ K.tW rfl) (st a a') (mM (dJ K.tW rfl) (dJ K.tW rfl) (st b b')
  (mM (dJ K.tW rfl) (dJ K.tW rfl) (st c c') (mM (dJ K.tW rfl) (dJ K.tW rfl) (st d d') rfl)))
theorem DL(w:World)(a b c d a' b' c' d':Int):(Op.equalIn 10000 83 (a4 a b c d) (a4 a' b' c' d')).run Tryz.prog w= .ok ((a==a')&&((b==b')&&((c==c')&&((d==d')&&true)))) w:=by
 obtain⟨i,hi⟩:=info_of_underlying (P:=Tryz.prog) (UK.get K.JN)
 rw[run_equalIn_array w 9999 _ _ (t:=83) (e:=5) (n:=4) (by kernel_rfl) hi,show(Tryz.prog).cellsOf 5=1 from by kernel_rfl]
 exact Ee w a b c d a' b' c' d'
theorem F9(a b c d a' b' c' d':Int):bV Tryz.prog .neq 83 (a4 a b c d) (a4 a' b' c' d') (.bool !((a==a')&&((b==b')&&((c==c')&&((d==d')&&true))))):=by
 refine fun x y w=>?_
 rw[Sem.run_bind,run_eqGuard_agg _ _ _ _ _ _ _ (by kernel_rfl)]
 simp only[Result.andThen_ok,run_neq_struct]
 rw[DL]
 rfl
theorem vZ(a b c d a' b' c' d':Nat)(K:Value→Prop):cI Tryz.prog .neq 83 (.agg #[.int .u8 a,.int .u8 b,.int .u8 c,.int .u8 d]) (.agg #[.int .u8 a',.int .u8 b',.int .u8 c',.int .u8 d']) K=K (.bool (decide ([a,b,c,d]≠[a',b',c',d']))):=by
 have e:(!(((a:Int)==a')&&(((b:Int)==b')&&(((c:Int)==c')&&(((d:Int)==d')&&true)))))=decide ([a,b,c,d]≠[a',b',c',d']):=by
  rw[Bool.eq_iff_iff]
  simp[Int.natCast_inj]
 rw[←e]
 exact qe (F9 a b c d a' b' c' d') K
def r3(b:List Nat):List Nat:=(b.drop (aN b).2.1).take (aN b).1
def uR(b:List Nat):List Nat:=b.drop ((aN b).2.1+(aN b).1)
def dk(b:List Nat)(most:Nat):List Nat×List Nat×Int:=
 if(aN b).2.2≠0 then([],[],(aN b).2.2)
 else if most<(aN b).1 then([],[],2)
 else if b.length-(aN b).2.1<(aN b).1+4 then([],[],3)
 else if dw (kz (r3 b))≠(uR b).take 4 then([],[],5)
 else(r3 b,(uR b).drop 4,0)
theorem Co(b:List Nat)(nn:Bool)(most:Nat)(hm:most≤1048576)(hb:∀c∈b,c<256)(hl:b.length≤140737488351232)(H:aa):
  ah Tryz.prog 18 [.d (.list nn (aL b)),iA most] H (.ok (.bu [.d (.list false (aL (dk b most).1)),.d (.list false (aL (dk b most).2.1)),iA (dk b most).2.2])) H:=by
 have hg:=fun H=>iY b nn (by omega) hb H
 have hle:=jH b
 unfold dk r3 uR
 generalize aN b=g at*
 obtain⟨n,k,e⟩:=g
 simp only at hg hle⊢
 have wm:IntKind.u64.wrap (most:Int)=(most:Int):=aZ _ (by omega)
 have mneg:((most:Int)<0)=False:=eq_false (by omega)
 by_cases he:e≠0
 ·rw[if_pos he]
  refine ah.ck (cs:=[.d (.v (.slice none 0 0)),.d (.v (.slice none 0 0)),iA e]) ?_ (.cons .nil (.cons .nil (.cons (.refl _) .nil)))
  refine ah.ao (hint:=(fun _=>false)) Tryz.func18 (by kernel_rfl) rfl [4,5,6] (by kernel_rfl) (by decide) (by simp[Tryz.ntmps18]) ?_
  rw[Tryz.ntmps18]
  simp -implicitDefEqProofs only[↓reduceIte,go_sem,Nat.reduceLT,reduceCtorEq,eq_self]
  refine ae.ok (hg _) ?_
  simp -implicitDefEqProofs only[↓reduceIte,go_sem,Nat.reduceLT,Nat.reduceEqDiff,eq_self,he]
  refine aC.bC ?_
  simp -implicitDefEqProofs only[↓reduceIte,go_sem,Nat.reduceLT,Nat.reduceEqDiff,eq_self]
 rw[if_neg he]
 obtain rfl:e=0:=by simpa using he
 by_cases h1:most<n
 ·rw[if_pos h1]
  refine ah.ck (cs:=[.d (.v (.slice none 0 0)),.d (.v (.slice none 0 0)),iA 2]) ?_ (.cons .nil (.cons .nil (.cons (.refl _) .nil)))
  refine ah.ao (hint:=(fun _=>false)) Tryz.func18 (by kernel_rfl) rfl [4,5,6] (by kernel_rfl) (by decide) (by simp[Tryz.ntmps18]) ?_
  rw[Tryz.ntmps18]
  simp -implicitDefEqProofs only[↓reduceIte,go_sem,Nat.reduceLT,reduceCtorEq,eq_self]
  refine ae.ok (hg _) ?_
  simp -implicitDefEqProofs only[↓reduceIte,go_sem,Nat.reduceLT,Nat.reduceEqDiff,reduceCtorEq,eq_self,mneg,wm,show((most:Int)<(n:Int))=True from eq_true (by omega)]
  refine aC.bC ?_
  simp -implicitDefEqProofs only[↓reduceIte,go_sem,Nat.reduceLT,Nat.reduceEqDiff,eq_self]
 rw[if_neg h1]
 have h1f:((most:Int)<(n:Int))=False:=eq_false (by omega)
 have w1:IntKind.i64.wrap ((b.length:Int)-(k:Int))=((b.length-k:Nat):Int):=by rw[wrap64_in _ (by omega) (by omega)];omega
 have w2:IntKind.u64.wrap ((b.length-k:Nat):Int)=((b.length-k:Nat):Int):=aZ _ (by omega)
 have w3:IntKind.u64.wrap ((n:Int)+4)=((n+4:Nat):Int):=by
  have:=aZ (n+4) (by omega)
  rw[←this];rfl
 by_cases h2:b.length-k<n+4
 ·rw[if_pos h2]
  have h2t:(((b.length-k:Nat):Int)<(n:Int)+4)=True:=eq_true (by omega)
  refine ah.ck (cs:=[.d (.v (.slice none 0 0)),.d (.v (.slice none 0 0)),iA 3]) ?_ (.cons .nil (.cons .nil (.cons (.refl _) .nil)))
  refine ah.ao (hint:=(fun _=>false)) Tryz.func18 (by kernel_rfl) rfl [4,5,6] (by kernel_rfl) (by decide) (by simp[Tryz.ntmps18]) ?_
  rw[Tryz.ntmps18]
  simp -implicitDefEqProofs only[↓reduceIte,go_sem,Nat.reduceLT,reduceCtorEq,eq_self]
  refine ae.ok (hg _) ?_
  simp -implicitDefEqProofs only[↓reduceIte,go_sem,Nat.reduceLT,Nat.reduceEqDiff,reduceCtorEq,eq_self,mneg,wm,h1f,au,w1,w2,w3,h2t]
  refine aC.bC ?_
  simp -implicitDefEqProofs only[↓reduceIte,go_sem,Nat.reduceLT,Nat.reduceEqDiff,eq_self]
 rw[if_neg h2]
 have h2f:(((b.length-k:Nat):Int)<(n:Int)+4)=False:=eq_false (by omega)
 have w4:IntKind.i64.wrap (n:Int)=(n:Int):=wrap64_in _ (by omega) (by omega)
 have w5:IntKind.i64.wrap ((k:Int)+(n:Int))=((k+n:Nat):Int):=by rw[wrap64_in _ (by omega) (by omega)];omega
 obtain⟨q,hq⟩:∃q,q=k+n:=⟨_,rfl⟩
 rw[←hq]at w5
 rw[←hq]
 generalize hB:(b.drop k).take n=B at*
 generalize hR:b.drop q=R at*
 have hBl:B.length=n:=by rw[←hB,List.length_take,List.length_drop];omega
 have hRl:4≤R.length:=by rw[←hR,List.length_drop];omega
 have hRl2:R.length≤140737488351232:=by rw[←hR,List.length_drop];omega
 have hbB:∀c∈B,c<256:=fun c hc=>hb c (by rw[←hB]at hc;exact List.mem_of_mem_drop (List.mem_of_mem_take hc))
 have hcopy:bU (List.replicate n [D.v (.int .u8 0)]) 0 ((aL (b.drop k)).take (min (b.length-k) n))=aL B:=by
  have:((aL (b.drop k)).take (min (b.length-k) n))=aL B:=by
   rw[←hB]
   unfold aL
   rw[←List.map_take,show min (b.length-k) n=n by omega]
  rw[this]
  unfold bU
  rw[List.take_zero,List.nil_append,List.drop_eq_nil_of_le (by rw[List.length_replicate,au];omega),List.append_nil]
 have hsum:=fun H=>uD B false hbB (by omega) H
 have hcl:=z8 B
 have hfo:=fun H=>rB (kz B) hcl H
 unfold kz at*
 obtain⟨y0,y1,y2,y3,hy⟩:∃y0 y1 y2 y3,dw (4294967295-BS B)=[y0,y1,y2,y3]:=⟨_,_,_,_,rfl⟩
 rw[hy]at hfo
 simp only[List.map_cons,List.map_nil,b8]at hfo
 rw[hy]
 obtain⟨x0,x1,x2,x3,R',hR4⟩:∃x0 x1 x2 x3 R',R=x0::x1::x2::x3::R':=by
  match R,hRl with
  |x0::x1::x2::x3::R',_=>exact⟨_,_,_,_,_,rfl⟩
  |[],h=>simp at h
  |[_],h=>simp at h
  |[_,_],h=>simp at h
  |[_,_,_],h=>simp at h
 have ht4:List.take 4 (aL R)=[D.v (.int .u8 (x0:Int)),.v (.int .u8 (x1:Int)),.v (.int .u8 (x2:Int)),.v (.int .u8 (x3:Int))].map fun d=>[d]:=by rw[hR4];rfl
 have hr4:R.take 4=[x0,x1,x2,x3]:=by rw[hR4];rfl
 have hd4:List.drop 4 (aL R)=aL (R.drop 4):=by unfold aL;rw[List.map_drop]
 rw[hr4]
 have hdk:List.drop k (aL b)=aL (b.drop k):=by unfold aL;rw[List.map_drop]
 have hdkn:List.drop q (aL b)=aL R:=by rw[←hR];unfold aL;rw[List.map_drop]
 have hdkl:(aL (b.drop k)).length=b.length-k:=by rw[au,List.length_drop]
 suffices h:ah Tryz.prog 18 [.d (.list nn (aL b)),iA most] H (.ok (if[y0,y1,y2,y3]≠[x0,x1,x2,x3]then .bu [.d (.v (.slice none 0 0)),.d (.v (.slice none 0 0)),iA 5]else .bu [.d (.list false (aL B)),.d (.list false (aL (R.drop 4))),iA 0])) H by
  by_cases h3:[y0,y1,y2,y3]≠[x0,x1,x2,x3]
  ·rw[if_pos h3]at h⊢
   exact ah.ck h (.cons .nil (.cons .nil (.cons (.refl _) .nil)))
  ·rw[if_neg h3]at h⊢
   exact h
 refine ah.ao (hint:=(fun t=>t==1000011)) Tryz.func18 (by kernel_rfl) rfl [4,5,6] (by kernel_rfl) (by decide) (by simp[Tryz.ntmps18]) ?_
 rw[Tryz.ntmps18]
 simp -implicitDefEqProofs only[↓reduceIte,go_sem,Nat.reduceAdd,Nat.reduceLT,Nat.reduceBEq,reduceCtorEq,eq_self]
 refine ae.ok (hg _) ?_
 simp -implicitDefEqProofs only[↓reduceIte,go_sem,Nat.reduceAdd,Nat.reduceLT,Nat.reduceEqDiff,Nat.reduceBEq,reduceCtorEq,eq_self,mneg,wm,h1f,au,w1,w2,w3,h2f,w4,w5,aS,List.take_of_length_le (Nat.le_of_eq (au b)),hdk,hdkn,hdkl,hcopy]
 refine⟨⟨by omega,by omega⟩,by omega,by omega,?_⟩
 refine⟨_,_,az.drop H _ _,?_⟩
 simp -implicitDefEqProofs only[go_sem]
 refine dC [some true,some false,some true,some true,some false,none,some false,none] 0 H K.mixed (by kernel_rfl) (by kernel_rfl) (by kernel_rfl) (Ext.refl _) ?_
 simp -implicitDefEqProofs only[↓reduceIte,go_sem,Nat.reduceLT]
 refine ae.ok (pk _) ?_
 simp -implicitDefEqProofs only[↓reduceIte,go_sem,Nat.reduceLT,Nat.reduceEqDiff,eq_self,List.take_of_length_le (show(aL B).length≤n by rw[au];omega)]
 refine ae.ok (hsum _) ?_
 simp -implicitDefEqProofs only[↓reduceIte,go_sem,Nat.reduceLT,eq_self]
 refine ae.ok (hfo _) ?_
 have hon:yZ [[D.v (.int .u8 (x0:Int))],[.v (.int .u8 (x1:Int))],[.v (.int .u8 (x2:Int))],[.v (.int .u8 (x3:Int))]]=some [.v (.int .u8 (x0:Int)),.v (.int .u8 (x1:Int)),.v (.int .u8 (x2:Int)),.v (.int .u8 (x3:Int))]:=rfl
 simp -implicitDefEqProofs only[↓reduceIte,go_sem,Nat.reduceAdd,Nat.reduceLT,Nat.reduceEqDiff,Int.reduceLE,Int.reduceToNat,eq_self,aS,au,ht4,hon]
 refine⟨by omega,?_⟩
 simp -implicitDefEqProofs only[↓reduceIte,go_sem,Nat.reduceLT,eq_self,vZ]
 by_cases h3:[y0,y1,y2,y3]=[x0,x1,x2,x3]
 ·rw[if_neg (by simpa using h3)]
  rw[show(decide ¬[y0,y1,y2,y3]=[x0,x1,x2,x3])=false from decide_eq_false fun h=>h h3]
  clear hR4 hr4 ht4
  have htR:List.take R.length (aL R)=aL R:=List.take_of_length_le (Nat.le_of_eq (au R))
  simp -implicitDefEqProofs only[↓reduceIte,go_sem,Nat.reduceAdd,Nat.reduceLT,Nat.reduceEqDiff,Nat.reduceBEq,Int.reduceLE,Int.reduceToNat,eq_self,au,aS,htR,hd4,List.length_drop]
  refine⟨by omega,by omega,by omega,?_⟩
  refine aC.ret ?_
  simp -implicitDefEqProofs only[↓reduceIte,go_sem,Nat.reduceLT,Nat.reduceEqDiff,eq_self,List.take_of_length_le (show(aL (R.drop 4)).length≤R.length-4 by rw[au,List.length_drop];omega),List.take_of_length_le (show(aL B).length≤n by rw[au];omega)]
 ·rw[if_pos h3]
  rw[show(decide ¬[y0,y1,y2,y3]=[x0,x1,x2,x3])=true from decide_eq_true h3]
  simp -implicitDefEqProofs only[↓reduceIte,go_sem,Nat.reduceLT]
  refine aC.bC ?_
  simp -implicitDefEqProofs only[↓reduceIte,go_sem,Nat.reduceLT,Nat.reduceEqDiff,eq_self]
def cw(s:Sg)(b:List Nat):Sg:=⟨s.kind,s.aR,s.aP,s.aB,b⟩
theorem FV(b x rest y y2 B1 B2:List Nat)(s1 s2 t:Sg)(L:List aj)(e0 e1 e2 e3 e4:Int)(H0:aa)
  (ho:∀H,ah Tryz.prog 18 [.d (.list false (aL b)),iA (1048576:Int)] H (.ok (.bu [.d (.list false (aL x)),.d (.list false (aL rest)),iA e0])) H)
  (hh:e0=0→∀H,ah Tryz.prog 19 [.d (.list false (aL x))] H (.ok (.bu [.agg s1.cs,.d (.list false (aL y)),iA e1])) H)
  (hz:e0=0→e1=0→∀(G:aa) (id:Nat),G[id]?=some (sB s1)→ah Tryz.prog 20 [.ptr id 0 0 0,.d (.list false (aL y))] G (.ok (.bu [.d (.list false (aL y2)),iA e2])) (G.set id (sB s2)))
  (hv:e0=0→e1=0→e2=0→∀H,ah Tryz.prog 21 [.agg (cw s2 y2).cs] H (.ok (.bu [.d (.list false (L.map aj.enc)),iA e3])) H)
  (hm:e0=0→e1=0→e2=0→e3=0→s2.aR≠0∧∀H,ah Tryz.prog 14 [.d (.list false (L.map aj.enc)),iA s2.kind,iA s2.aR] H (.ok (.bu [.agg t.cs,iA e4])) H)
  (hB:e0=0→e1=0→e2=0→e3=0→e4=0→cf B1∧cf B2∧(∀H,ah Tryz.prog 15 [.agg t.cs] H (.ok (.d (.list false (aL B1)))) H)∧∀H,ah Tryz.prog 22 [.d (.list false (aL x))] H (.ok (.d (.list false (aL B2)))) H):
  ah Tryz.prog 8 [.d (.list false (aL b))] H0 (.ok (if e0≠0 then .bu [.agg fO,.d (.v (.slice none 0 0)),iA e0]else if e1≠0 then .bu [.agg fO,.d (.v (.slice none 0 0)),iA e1]else if e2≠0 then .bu [.agg fO,.d (.v (.slice none 0 0)),iA e2]
   else if e3≠0 then .bu [.agg fO,.d (.v (.slice none 0 0)),iA 4]else if e4≠0∨B1≠B2 then .bu [.agg fO,.d (.v (.slice none 0 0)),iA 4]else .bu [.agg t.cs,.d (.list false (aL rest)),iA 0])) H0:=by
 refine ah.bR (hint:=fun _=>false) Tryz.func8 (by kernel_rfl) rfl [.cell 2 30,.tmp 3,.tmp 4] (by kernel_rfl) (by simp[Tryz.ntmps8]) ?_
 rw[Tryz.ntmps8]
 simp -implicitDefEqProofs only[↓reduceIte,go_sem,Nat.reduceLT,reduceCtorEq,eq_self]
 refine ae.ok (ho _) ?_
 by_cases h0:e0≠0
 ·rw[if_pos h0]
  simp -implicitDefEqProofs only[↓reduceIte,go_sem,aq,Nat.reduceAdd,Nat.reduceLT,Nat.reduceEqDiff,eq_self,h0]
  refine bG.ret ?_
  simp -implicitDefEqProofs only[↓reduceIte,go_sem,ai,Nat.reduceAdd,Nat.reduceLT,Nat.reduceLeDiff,Nat.reduceEqDiff,eq_self,aO,bP,fO,dH]
 rw[if_neg h0]
 obtain rfl:e0=0:=by simpa using h0
 simp -implicitDefEqProofs only[↓reduceIte,go_sem,Nat.reduceLT,Nat.reduceEqDiff,eq_self]
 refine ae.ok (hh rfl _) ?_
 unfold Sg.cs
 obtain⟨k1,w1,⟨zr1,zn1,zmn1,zmx1⟩,ns1,bd1⟩:=s1
 obtain⟨k2,w2,⟨zr2,zn2,zmn2,zmx2⟩,ns2,bd2⟩:=s2
 unfold sB cw Sg.cs at*
 by_cases h1:e1≠0
 ·rw[if_pos h1]
  simp -implicitDefEqProofs only[↓reduceIte,go_sem,aq,Nat.reduceAdd,Nat.reduceLT,Nat.reduceEqDiff,eq_self,h1]
  refine bG.ret ?_
  simp -implicitDefEqProofs only[↓reduceIte,go_sem,ai,Nat.reduceAdd,Nat.reduceLT,Nat.reduceLeDiff,Nat.reduceEqDiff,eq_self,aO,bP,fO,dH]
 rw[if_neg h1]
 obtain rfl:e1=0:=by simpa using h1
 simp -implicitDefEqProofs only[↓reduceIte,go_sem,aq,Nat.reduceAdd,Nat.reduceLT,Nat.reduceEqDiff,eq_self]
 refine ae.ok (hz rfl rfl _ _ (by simp -implicitDefEqProofs only[go_sem,eq_self])) ?_
 by_cases h2:e2≠0
 ·rw[if_pos h2]
  simp -implicitDefEqProofs only[↓reduceIte,go_sem,aq,Nat.reduceAdd,Nat.reduceLT,Nat.reduceEqDiff,eq_self,h2]
  refine bG.ret ?_
  simp -implicitDefEqProofs only[↓reduceIte,go_sem,ai,Nat.reduceAdd,Nat.reduceLT,Nat.reduceLeDiff,Nat.reduceEqDiff,eq_self,aO,bP,fO,dH]
 rw[if_neg h2]
 obtain rfl:e2=0:=by simpa using h2
 simp -implicitDefEqProofs only[↓reduceIte,go_sem,ai,aq,Nat.reduceAdd,Nat.reduceLT,Nat.reduceEqDiff,eq_self]
 refine ae.ok (hv rfl rfl rfl _) ?_
 by_cases h3:e3≠0
 ·rw[if_pos h3]
  simp -implicitDefEqProofs only[↓reduceIte,go_sem,aq,Nat.reduceAdd,Nat.reduceLT,Nat.reduceEqDiff,eq_self,h3]
  refine bG.ret ?_
  simp -implicitDefEqProofs only[↓reduceIte,go_sem,ai,Nat.reduceAdd,Nat.reduceLT,Nat.reduceLeDiff,Nat.reduceEqDiff,eq_self,aO,bP,fO,dH]
 rw[if_neg h3]
 obtain rfl:e3=0:=by simpa using h3
 obtain⟨hw0,hm⟩:=hm rfl rfl rfl rfl
 have hw0:(w2=0)=False:=eq_false hw0
 obtain⟨k4,w4,⟨zr4,zn4,zmn4,zmx4⟩,ns4,bd4⟩:=t
 simp -implicitDefEqProofs only[↓reduceIte,go_sem,ai,Nat.reduceAdd,Nat.reduceLT,Nat.reduceLeDiff,Nat.reduceEqDiff,eq_self]
 refine ae.ok (hm _) ?_
 by_cases h4:e4≠0
 ·rw[if_pos (.inl h4)]
  simp -implicitDefEqProofs only[↓reduceIte,go_sem,aq,Nat.reduceAdd,Nat.reduceLT,Nat.reduceEqDiff,eq_self]
  refine bQ K.mixed (by kernel_rfl) ?_
  simp -implicitDefEqProofs only[↓reduceIte,go_sem,aq,Nat.reduceAdd,Nat.reduceLT,Nat.reduceEqDiff,eq_self,h4]
  refine bG.ret ?_
  simp -implicitDefEqProofs only[↓reduceIte,go_sem,ai,Nat.reduceAdd,Nat.reduceLT,Nat.reduceLeDiff,Nat.reduceEqDiff,eq_self,aO,bP,fO,dH]
 obtain rfl:e4=0:=by simpa using h4
 obtain⟨b1,b2,hBy,hk⟩:=hB rfl rfl rfl rfl rfl
 clear hB
 have hbe:=wN b1 b2
 by_cases hBB:B1≠B2
 ·rw[if_pos (.inr hBB)]
  simp -implicitDefEqProofs only[↓reduceIte,go_sem,aq,Nat.reduceAdd,Nat.reduceLT,Nat.reduceEqDiff,eq_self]
  refine bQ K.mixed (by kernel_rfl) ?_
  simp -implicitDefEqProofs only[↓reduceIte,go_sem,ai,Nat.reduceAdd,Nat.reduceLT,Nat.reduceLeDiff,Nat.reduceEqDiff,reduceCtorEq,eq_self,hw0]
  refine ae.ok (hBy _) ?_
  simp -implicitDefEqProofs only[↓reduceIte,go_sem,Nat.reduceLT,Nat.reduceEqDiff,eq_self,dD,kK]
  refine ae.ok (hk _) ?_
  simp -implicitDefEqProofs only[↓reduceIte,go_sem,aq,Nat.reduceAdd,Nat.reduceLT,Nat.reduceEqDiff,reduceCtorEq,eq_self,dD,kK,hbe,hBB]
  refine bG.ret ?_
  simp -implicitDefEqProofs only[↓reduceIte,go_sem,ai,Nat.reduceAdd,Nat.reduceLT,Nat.reduceLeDiff,Nat.reduceEqDiff,eq_self,aO,bP,fO,dH]
 ·rw[if_neg (fun h=>h.elim (fun h=>h rfl) hBB)]
  obtain rfl:B1=B2:=by simpa using hBB
  simp -implicitDefEqProofs only[↓reduceIte,go_sem,aq,Nat.reduceAdd,Nat.reduceLT,Nat.reduceEqDiff,eq_self]
  refine bQ K.mixed (by kernel_rfl) ?_
  simp -implicitDefEqProofs only[↓reduceIte,go_sem,ai,Nat.reduceAdd,Nat.reduceLT,Nat.reduceLeDiff,Nat.reduceEqDiff,reduceCtorEq,eq_self,hw0]
  refine ae.ok (hBy _) ?_
  simp -implicitDefEqProofs only[↓reduceIte,go_sem,Nat.reduceLT,Nat.reduceEqDiff,eq_self,dD,kK]
  refine ae.ok (hk _) ?_
  simp -implicitDefEqProofs only[↓reduceIte,go_sem,ai,aq,Nat.reduceAdd,Nat.reduceLT,Nat.reduceEqDiff,reduceCtorEq,eq_self,dD,kK,hbe]
  refine bG.ret ?_
  simp -implicitDefEqProofs only[↓reduceIte,go_sem,ai,Nat.reduceAdd,Nat.reduceLT,Nat.reduceLeDiff,Nat.reduceEqDiff,eq_self,aO,bP]
theorem rW{b:List Nat}(h:cf b)(n:Nat):cf (b.take n):=fun c hc=>h c (List.mem_of_mem_take hc)
theorem kr:cf []:=fun c hc=>by cases hc
def lW(r b:List Nat):Prop:=r=[]∨∃j,r=b.drop j
theorem lW.byte{r b:List Nat}(h:lW r b)(hb:cf b):cf r:=by
 rcases h with rfl|⟨j,rfl⟩
 ·exact kr
 ·exact kR hb j
theorem lW.len{r b:List Nat}(h:lW r b):r.length≤b.length:=by
 rcases h with rfl|⟨j,rfl⟩
 ·simp
 ·rw[List.length_drop];omega
theorem lW.refl(b:List Nat):lW b b:= .inr ⟨0,rfl⟩
theorem lW.trans{r c b:List Nat}(h1:lW r c)(h2:lW c b):lW r b:=by
 rcases h1 with rfl|⟨j,rfl⟩
 ·exact .inl rfl
 ·rcases h2 with rfl|⟨i,rfl⟩
  ·exact .inl (by simp)
  ·exact .inr ⟨i+j,by rw[List.drop_drop]⟩
theorem C1{b:List Nat}(hb:cf b)(m:Nat):cf (dk b m).1∧(dk b m).1.length≤m∧lW (dk b m).2.1 b:=by
 unfold dk
 split
 ·exact⟨kr,by simp,.inl rfl⟩
 split
 ·exact⟨kr,by simp,.inl rfl⟩
 split
 ·exact⟨kr,by simp,.inl rfl⟩
 split
 ·exact⟨kr,by simp,.inl rfl⟩
 ·rename_i h _ _
  refine⟨rW (kR hb _) _,?_,.inr ⟨_,List.drop_drop⟩⟩
  simp only[r3,List.length_take]
  omega
theorem D6{b:List Nat}(h:(eD b).2.2=0):∃kn cn zr zn:Nat,(eD b).1=⟨(kn:Int),(cn:Int),⟨zr,zn,⟨0,0,dH⟩,⟨0,0,dH⟩⟩,[],[]⟩∧1≤kn∧kn≤3∧zr≤4096∧zn≤zr∧lW (eD b).2.1 b:=by
 unfold eD at*
 split at h
 ·rename_i he;exact absurd h he
 rename_i h1
 rw[if_neg h1]
 split at h
 ·simp at h
 rename_i h2
 rw[if_neg h2]
 have h2:dR (eZ 4 b []).1=true:=by simpa using h2
 unfold dR at h2
 simp only[Bool.and_eq_true,decide_eq_true_eq]at h2
 obtain⟨j,hj⟩:=mW 4 b []
 refine⟨_,_,_,_,rfl,h2.1.1.1,h2.1.1.2,h2.1.2,h2.2,?_⟩
 rcases hj with hj|hj
 ·exact .inr ⟨j,hj⟩
 ·exact .inl hj
theorem uK(b:List Nat)(k:Int):lW (dG b k).2.1 b:= .inr (dX b k)
theorem wB(s:Sg)(b:List Nat):(jR s b).1.kind=s.kind∧(jR s b).1.aR=s.aR∧(jR s b).1.aP.rows=s.aP.rows∧(jR s b).1.aB=s.aB∧lW (jR s b).2.1 b:=by
 unfold jR
 split
 ·exact⟨rfl,rfl,rfl,rfl,.refl b⟩
 split
 ·exact⟨rfl,rfl,rfl,rfl,.inl rfl⟩
 split
 ·exact⟨rfl,rfl,rfl,rfl,.inl rfl⟩
 ·exact⟨rfl,rfl,rfl,rfl,(uK _ _).trans (uK _ _)⟩
theorem EH(s:Sg)(b:List Nat)(hs:s.aB=[]):(eS s b).1.kind=s.kind∧(eS s b).1.aR=s.aR∧(eS s b).1.aP.rows=s.aP.rows∧(eS s b).1.aB.length≤s.aP.rows∧lW (eS s b).2.1 b:=by
 unfold eS
 split
 ·obtain⟨h1,h2,h3,h4,h5⟩:=wB s b
  exact⟨h1,h2,h3,by rw[h4,hs];simp,h5⟩
 split
 ·exact⟨rfl,rfl,rfl,by rw[hs];simp,.inl rfl⟩
 split
 ·exact⟨rfl,rfl,rfl,by simp[fA],.inl rfl⟩
 ·obtain⟨h1,h2,h3,h4,h5⟩:=wB (fA s (uW (b.take ((s.aP.rows+7)/8)) s.aP.rows)) (b.drop ((s.aP.rows+7)/8))
  refine⟨h1,h2,h3,?_,h5.trans (.inr ⟨_,rfl⟩)⟩
  rw[h4]
  simp[fA,uW,bJ]
theorem nK:∀{ns:List Bool} {l:List aj} {v:aj},v∈ef ns l→v=⟨0,0,dH⟩∨v∈l
 |[],l,v,h=>by simp[ef]at h
 |true::ns,l,v,h=>by
  rcases List.mem_cons.1 (by simpa[ef]using h)with h|h
  ·exact .inl h
  ·exact nK h
 |false::ns,[],v,h=>by simp[ef]at h
 |false::ns,w::l,v,h=>by
  rcases List.mem_cons.1 (by simpa[ef]using h)with h|h
  ·exact .inr (by simp[h])
  ·rcases nK h with h|h
   ·exact .inl h
   ·exact .inr (by simp[h])
theorem nR:∀(ns:List Bool) (l:List aj),(ef ns l).length≤ns.length
 |[],l=>by simp[ef]
 |true::ns,l=>by simp only[ef,List.length_cons];have:=nR ns l;omega
 |false::ns,[]=>by simp[ef]
 |false::ns,w::l=>by simp only[ef,List.length_cons];have:=nR ns l;omega
theorem D9{s:Sg}(hb:cf s.body)(hn:s.aB.length≤4096)(h:(dz s).2=0):1≤s.aR∧s.aR≤4∧(dz s).1.length≤4096∧∀v∈(dz s).1,dI v.i:=by
 have hlen:=vA s.body ((s.aP.rows:Int)-(aJ s.aB:Int)) s.kind s.aR hb
 have hgood:=fun l=>Bm (b:=s.body) (n:=(s.aP.rows:Int)-(aJ s.aB:Int)) (k:=s.kind) (w:=s.aR) (l:=l) hb
 unfold dz at*
 generalize fU s.body ((s.aP.rows:Int)-(aJ s.aB:Int)) s.kind s.aR=q at*
 obtain⟨l,e⟩:=q
 simp only at hlen h hgood⊢
 by_cases c:e≠0∨s.aB=[]
 ·rw[if_pos c]at h⊢
  simp only at h
  subst h
  obtain⟨g1,g2,g3,g4⟩:=hgood l rfl
  exact⟨g3,g4,hlen,fun v hv=>(g2 v hv).2.2⟩
 ·rw[if_neg c]at h⊢
  obtain rfl:e=0:=by simpa using fun h=>c (.inl h)
  obtain⟨g1,g2,g3,g4⟩:=hgood l rfl
  refine⟨g3,g4,?_⟩
  unfold gL at h⊢
  split at h
  ·simp at h
  rename_i c1
  rw[if_neg c1]
  split at h
  ·simp at h
  rename_i c2
  rw[if_neg c2]
  refine⟨by have:=nR s.aB l;simp only;omega,fun v hv=>?_⟩
  rcases nK hv with rfl|hv
  ·exact⟨by decide,by decide⟩
  ·exact(g2 v hv).2.2
noncomputable def jP(b:List Nat):Sg×List Nat×Int:=
 if(dk b 1048576).2.2≠0 then(A2,[],(dk b 1048576).2.2)
 else if(eD (dk b 1048576).1).2.2≠0 then(A2,[],(eD (dk b 1048576).1).2.2)
 else if(eS (eD (dk b 1048576).1).1 (eD (dk b 1048576).1).2.1).2.2≠0 then(A2,[],(eS (eD (dk b 1048576).1).1 (eD (dk b 1048576).1).2.1).2.2)
 else yk (dk b 1048576).1 (dk b 1048576).2.1 (cw (eS (eD (dk b 1048576).1).1 (eD (dk b 1048576).1).2.1).1 (eS (eD (dk b 1048576).1).1 (eD (dk b 1048576).1).2.1).2.1)
where yk (x rest:List Nat) (s:Sg):Sg×List Nat×Int:=
 if(dz s).2≠0 then(A2,[],4)
 else if(dN (dz s).1 s.kind s.aR).2≠0∨fc s.kind.toNat s.aR.toNat (dN (dz s).1 s.kind s.aR).1≠ca x then(A2,[],4)
 else((dN (dz s).1 s.kind s.aR).1,rest,0)
theorem kV{k c:Nat}{s:Sg}(h:cf (ek k c s))(hl:(ek k c s).length≤20000000):cf (fc k c s):=
 ((dj (by omega)).app h).app (wT _)
theorem jI(b:List Nat)(hb:cf b)(hl:b.length≤140737488351232)(H:aa):
  ah Tryz.prog 8 [.d (.list false (aL b))] H (.ok (.bu [.agg (jP b).1.cs,.d (.list false (aL (jP b).2.1)),iA (jP b).2.2])) H:=by
 have ho:=fun H=>Co b false 1048576 (by omega) hb hl H
 obtain⟨ox,oxl,ot⟩:=C1 hb 1048576
 have hbk:=fun H=>xL (dk b 1048576).1 false ox (by omega) H
 unfold jP
 generalize dk b 1048576=o at*
 obtain⟨x,rest,e0⟩:=o
 simp only at ho ox oxl ot hbk⊢
 have hh:=fun H=>AP x ox (by omega) H
 have hho:= @D6 x
 generalize eD x=h at*
 obtain⟨s1,y,e1⟩:=h
 simp only at hh hho⊢
 have hzo:=EH s1 y
 have hzz:e1=0→∀(G:aa) (id:Nat),G[id]?=some (sB s1)→ah Tryz.prog 20 [.ptr id 0 0 0,.d (.list false (aL y))] G (.ok (.bu [.d (.list false (aL (eS s1 y).2.1)),iA (eS s1 y).2.2])) (G.set id (sB (eS s1 y).1)):=by
  intro h1 G id hG
  obtain⟨kn,cn,zr,zn,rfl,g1,g2,g3,g4,g5⟩:=hho h1
  exact xU _ y (by simp only;omega) (g5.byte ox) (by have:=g5.len;omega) G id hG
 generalize eS s1 y=z at*
 obtain⟨s2,y2,e2⟩:=z
 simp only at hzo hzz⊢
 have hfact:e1=0→cf y2∧y2.length≤1048576∧s2.aP.rows≤4096∧s2.aB.length≤4096∧(∃kn:Nat,s2.kind=(kn:Int))∧∃cn:Nat,s2.aR=(cn:Int):=by
  intro h1
  obtain⟨kn,cn,zr,zn,rfl,g1,g2,g3,g4,g5⟩:=hho h1
  obtain⟨z1,z2,z3,z4,z5⟩:=hzo rfl
  simp only at z1 z2 z3 z4
  exact⟨z5.byte (g5.byte ox),by have:=z5.len;have:=g5.len;omega,by omega,by omega,⟨kn,z1⟩,cn,z2⟩
 have hv:e1=0→∀H,ah Tryz.prog 21 [.agg (cw s2 y2).cs] H (.ok (.bu [.d (.list false ((dz (cw s2 y2)).1.map aj.enc)),iA (dz (cw s2 y2)).2])) H:=by
  intro h1 H
  obtain⟨f1,f2,f3,f4,_,_⟩:=hfact h1
  exact BE (cw s2 y2) (by simp only[cw];omega) (by simp only[cw];omega) f1 (by simp only[cw];omega) H (by have:=vA (cw s2 y2).body (((cw s2 y2).aP.rows:Int)-(aJ (cw s2 y2).aB:Int)) (cw s2 y2).kind (cw s2 y2).aR f1;omega)
 have hvo:e1=0→(dz (cw s2 y2)).2=0→_:=fun h1=>D9 (s:=cw s2 y2) (hfact h1).1 (hfact h1).2.2.2.1
 unfold jP.yk
 obtain⟨S,hS⟩:∃S,S=cw s2 y2:=⟨_,rfl⟩
 have hSk:S.kind=s2.kind:=by rw[hS];rfl
 have hSw:S.aR=s2.aR:=by rw[hS];rfl
 rw[←hS]at hv hvo⊢
 have hm:e1=0→(dz S).2=0→∀H,ah Tryz.prog 14 [.d (.list false ((dz S).1.map aj.enc)),iA S.kind,iA S.aR] H (.ok (.bu [.agg (dN (dz S).1 S.kind S.aR).1.cs,iA (dN (dz S).1 S.kind S.aR).2])) H:=by
  intro h1 h2 H
  obtain⟨_,_,g3,g4⟩:=hvo h1 h2
  exact kU _ _ _ g4 (by omega) H
 have hB:e1=0→(dz S).2=0→(dN (dz S).1 S.kind S.aR).2=0→cf (fc S.kind.toNat S.aR.toNat (dN (dz S).1 S.kind S.aR).1)∧cf (ca x)∧(∀H,ah Tryz.prog 15 [.agg (dN (dz S).1 S.kind S.aR).1.cs] H (.ok (.d (.list false (aL (fc S.kind.toNat S.aR.toNat (dN (dz S).1 S.kind S.aR).1))))) H)∧∀H,ah Tryz.prog 22 [.d (.list false (aL x))] H (.ok (.d (.list false (aL (ca x))))) H:=by
  intro h1 h2 h3
  obtain⟨g1,_,g3,g4⟩:=hvo h1 h2
  obtain⟨kn,cn,m1,m2,m3,m4,m5,m6,m7,m8,m9⟩:=(kO h3).bytes g4
  have hw:bL (dz S).1 S.kind S.aR=S.aR:=if_neg (by omega)
  rw[hw]at m4
  rw[show S.kind.toNat=kn by omega,show S.aR.toNat=cn by omega]
  exact⟨kV m7 m8,((dj (by omega)).app ox).app (wT _),m9.1,hbk⟩
 generalize dz S=v at*
 obtain⟨L,e3⟩:=v
 simp only at hv hvo hm hB⊢
 generalize dN L S.kind S.aR=m at*
 obtain⟨t,e4⟩:=m
 simp only at hm hB⊢
 generalize fc S.kind.toNat S.aR.toNat t=B1 at*
 rw[hSk,hSw]at hm
 have h:=FV b x rest y y2 B1 (ca x) s1 s2 t L e0 e1 e2 e3 e4 H ho (fun _=>hh) (fun _ h1=>hzz h1) (fun _ h1 _=>by rw[←hS];exact hv h1) (fun _ h1 _ h3=>⟨by have:=(hvo h1 h3).1;omega,hm h1 h3⟩) (fun _ h1 _ h3 h4=>hB h1 h3 h4)
 by_cases h0:e0≠0
 ·rw[if_pos h0]at h⊢
  exact ah.ck h (.cons fM (.cons .nil (.cons (.refl _) .nil)))
 rw[if_neg h0]at h⊢
 by_cases h1:e1≠0
 ·rw[if_pos h1]at h⊢
  exact ah.ck h (.cons fM (.cons .nil (.cons (.refl _) .nil)))
 rw[if_neg h1]at h⊢
 by_cases h2:e2≠0
 ·rw[if_pos h2]at h⊢
  exact ah.ck h (.cons fM (.cons .nil (.cons (.refl _) .nil)))
 rw[if_neg h2]at h⊢
 by_cases h3:e3≠0
 ·rw[if_pos h3]at h⊢
  exact ah.ck h (.cons fM (.cons .nil (.cons (.refl _) .nil)))
 rw[if_neg h3]at h⊢
 by_cases h4:e4≠0∨B1≠ca x
 ·rw[if_pos h4]at h⊢
  exact ah.ck h (.cons fM (.cons .nil (.cons (.refl _) .nil)))
 rw[if_neg h4]at h⊢
 exact h
def xl:aj:=⟨0,0,dH⟩
def gZ(v:aj):aj:=if v.kind=0 then xl else v
theorem mf(l:List aj):aJ (b6 l)+(aF l).length=l.length:=by
 induction l with
 |nil=>rfl
 |cons v l ih=>
  unfold aJ b6 aF at*
  by_cases h:v.kind=0
  ·simp[h]at*;omega
  ·simp[h]at*;omega
theorem zp(l:List aj):ef (b6 l) (aF l)=l.map gZ:=by
 induction l with
 |nil=>rfl
 |cons v l ih=>
  unfold b6 aF gZ at*
  by_cases h:v.kind=0
  ·simp[h,ef,xl]at*;exact ih
  ·simp[h,ef]at*;exact ih
theorem CF(l:List aj):aF (l.map gZ)=aF l:=by
 induction l with
 |nil=>rfl
 |cons v l ih=>
  unfold aF gZ at*
  by_cases h:v.kind=0
  ·simp[h,xl]at*;exact ih
  ·simp[h]at*;exact ih
theorem yy(l:List aj):b6 (l.map gZ)=b6 l:=by
 unfold b6
 rw[List.map_map]
 apply List.map_congr_left
 intro v _
 by_cases h:v.kind=0<;>simp[gZ,h,xl]
theorem BY(l:List aj):bf (l.map gZ)=bf l:=by
 have:∀(m:List aj) (z:Zn),(m.map gZ).foldl aM z=m.foldl aM z:=by
  intro m
  induction m with
  |nil=>intro z;rfl
  |cons v m ih=>
   intro z
   rw[List.map_cons,List.foldl_cons,List.foldl_cons,ih]
   congr 1
   by_cases h:v.kind=0
   ·simp[gZ,h,xl,aM]
   ·simp[gZ,h]
 unfold bf
 rw[this,List.length_map]
theorem Bj(l:List aj):aF (aF l)=aF l:=by simp[aF]
theorem vx{l:List aj}(h:(aF l).length=l.length):aF l=l:=List.Sublist.eq_of_length List.filter_sublist h
theorem Dg{l:List aj}(h:(aF l).length=l.length):l.map gZ=l:=by
 have e:=vx h
 have:∀v∈l,gZ v=v:=fun v hv=>by
  rw[←e]at hv
  have:=(List.mem_filter.1 hv).2
  simp only[decide_eq_true_eq]at this
  simp[gZ,this]
 rw[List.map_congr_left (g:=id) this,List.map_id]
structure Ends (m:List aj) (z:Zn):Prop where
 none:aF m=[]→z.mn=xl∧z.mx=xl
 some:aF m≠[]→z.mn∈aF m∧z.mx∈aF m
 all:∀v∈aF m,0≤aU v z.mn∧aU v z.mx≤0
theorem Ends.step{m:List aj}{z:Zn}(h:Ends m z)(v:aj):Ends (m++[v]) (aM z v):=by
 unfold aM
 by_cases hk:v.kind=0
 ·rw[if_pos hk]
  have e:aF (m++[v])=aF m:=by simp[aF,hk]
  exact⟨by rw[e];exact h.none,by rw[e];exact h.some,by rw[e];exact h.all⟩
 ·rw[if_neg hk]
  have e:aF (m++[v])=aF m++[v]:=by simp[aF,hk]
  have hne:aF (m++[v])≠[]:=by rw[e];simp
  have vv:=bF.self v
  by_cases hm:aF m=[]
  ·obtain⟨h1,h2⟩:=h.none hm
   have e1:ed z v=⟨z.rows,z.aB,v,v⟩:=by unfold ed;rw[h1];rfl
   have e2:dY (ed z v) v=⟨z.rows,z.aB,v,v⟩:=by rw[e1];unfold dY;rw[if_neg (by simp only;omega)]
   have e3:fq (dY (ed z v) v) v=⟨z.rows,z.aB,v,v⟩:=by rw[e2];unfold fq;rw[if_neg (by simp only;omega)]
   rw[e3]
   refine⟨fun h=>absurd h hne,fun _=>⟨by rw[e,hm];simp,by rw[e,hm];simp⟩,fun u hu=>?_⟩
   rw[e,hm]at hu
   obtain rfl:u=v:=by simpa using hu
   simp only;omega
  ·obtain⟨h1,h2⟩:=h.some hm
   have hk1:z.mn.kind≠0:=by simpa using(List.mem_filter.1 h1).2
   have e1:ed z v=z:=by unfold ed;rw[if_neg hk1]
   rw[e1]
   have g2:(dY z v).mn∈aF (m++[v])∧(dY z v).mx=z.mx∧∀u∈aF (m++[v]),0≤aU u (dY z v).mn:=by
    unfold dY
    rw[e]
    by_cases c:aU v z.mn<0
    ·rw[if_pos c]
     refine⟨by simp,rfl,fun u hu=>?_⟩
     rcases List.mem_append.1 hu with hu|hu
     ·have a1:=(h.all u hu).1
      have a2:=bF.fl u z.mn
      have a3:=bF.fl u v
      have a4:=bF.fl v u
      have a5:=bF.cS v u z.mn c
      simp only
      omega
     ·obtain rfl:u=v:=by simpa using hu
      simp only;omega
    ·rw[if_neg c]
     refine⟨by simp[h1],rfl,fun u hu=>?_⟩
     rcases List.mem_append.1 hu with hu|hu
     ·exact(h.all u hu).1
     ·obtain rfl:u=v:=by simpa using hu
      omega
   obtain⟨b1,b2,b3⟩:=g2
   have mm:=bF.fl v z.mx
   have mm2:=bF.fl z.mx v
   unfold fq
   rw[b2]
   by_cases c:0<aU v z.mx
   ·rw[if_pos c]
    refine⟨fun h=>absurd h hne,fun _=>⟨b1,by rw[e];simp⟩,fun u hu=>⟨b3 u hu,?_⟩⟩
    rw[e]at hu
    rcases List.mem_append.1 hu with hu|hu
    ·have a1:=(h.all u hu).2
     exact bF.le_trans a1 (by show aU z.mx v≤0;omega)
    ·obtain rfl:u=v:=by simpa using hu
     simp only;omega
   ·rw[if_neg c]
    refine⟨fun h=>absurd h hne,fun _=>⟨b1,by rw[e,b2];simp[h2]⟩,fun u hu=>⟨b3 u hu,?_⟩⟩
    rw[b2]
    rw[e]at hu
    rcases List.mem_append.1 hu with hu|hu
    ·exact(h.all u hu).2
    ·obtain rfl:u=v:=by simpa using hu
     omega
theorem CL(l:List aj):Ends l (bf l):=by
 have:∀(r m:List aj) (z:Zn),Ends m z→Ends (m++r) (r.foldl aM z):=by
  intro r
  induction r with
  |nil=>intro m z h;simpa using h
  |cons v r ih=>
   intro m z h
   have:=ih _ _ (h.step v)
   rwa[List.append_assoc]at this
 have h0:Ends [] ⟨l.length,0,⟨0,0,dH⟩,⟨0,0,dH⟩⟩:=⟨fun _=>⟨rfl,rfl⟩,fun h=>absurd rfl h,fun v hv=>by cases hv⟩
 simpa[bf]using this l [] _ h0
theorem vH{x:List Nat}(hx:x.length≤1048576)(more:List Nat):dk (ca x++more) 1048576=(x,more,0):=by
 have e:ca x++more=bq x.length++(x++(dw (kz x)++more)):=by unfold ca;simp
 have hg:=fN x.length (by omega) (x++(dw (kz x)++more))
 have hB:r3 (ca x++more)=x:=by
  unfold r3
  rw[e,hg]
  simp only
  rw[List.drop_left' rfl,List.take_left' rfl]
 have hR:uR (ca x++more)=dw (kz x)++more:=by
  unfold uR
  rw[e,hg]
  simp only
  rw[←List.drop_drop,List.drop_left' rfl,List.drop_left' rfl]
 unfold dk
 rw[hB,hR,e,hg]
 simp only
 rw[if_neg (by simp),if_neg (by omega),if_neg (by simp[dw]),List.take_left' (by rfl),if_neg (by simp),List.drop_left' (by rfl)]
theorem CI(a b c d:Nat)(ha:a<1048576)(hb:b<1048576)(hc:c<1048576)(hd:d<1048576)(r:List Nat):eZ 4 (bq a++(bq b++(bq c++(bq d++r)))) []=([a,b,c,d],r,0):=by
 have st:∀(f n:Nat) (r acc:List Nat),n<1048576→eZ (f+1) (bq n++r) acc=eZ f r (acc++[n]):=by
  intro f n r acc hn
  have hg:=fN n (by omega) r
  show(if(aN (bq n++r)).2.2≠0 then _ else _)=_
  rw[hg]
  simp only
  rw[if_neg (by simp),List.drop_left' rfl,Nat.min_eq_left (by omega)]
 rw[st 3 a _ _ ha,st 2 b _ _ hb,st 1 c _ _ hc,st 0 d _ _ hd]
 rfl
theorem Ds(l:List Bool):dt (l.map fun b=>b.toNat) 1=l:=by
 induction l with
 |nil=>rfl
 |cons b l ih=>
  have e:dt ((b::l).map fun b=>b.toNat) 1=cU b.toNat 1++dt (l.map fun b=>b.toNat) 1:=rfl
  rw[e,ih]
  cases b<;>rfl
theorem Du(l:List Bool):bO (cg l) l.length 1=0∧uW (cg l) l.length=l:=by
 have h:=j9 (l.map fun b=>b.toNat) 1 (fun n hn=>by obtain⟨b,_,rfl⟩:=List.mem_map.1 hn;cases b<;>decide)
 unfold cN at h
 rw[Ds,List.length_map]at h
 refine⟨h.2,?_⟩
 unfold uW
 rw[h.1,List.map_map]
 have:∀b∈l,((fun x:Nat=>decide (x=1))∘fun b:Bool=>b.toNat) b=b:=fun b _=>by cases b<;>rfl
 rw[List.map_congr_left (g:=id) this,List.map_id]
theorem AN{l:List aj}{k w:Int}{s:Sg}(hm:Made l k w s)(hok:∀v∈l,dI v.i):dz s=(l.map gZ,0):=by
 have hcs:=mf l
 have hok2:∀v∈aF l,dI v.i:=fun v hv=>hok v (km hv)
 have hg:=Av hm.lJ hm.Ac hok2
 have hro:=fw l
 rw[hm.eq]
 unfold dz cb
 simp only
 by_cases c:(aF l).length=l.length
 ·rw[if_pos c]
  have e:((bf l).rows:Int)-(aJ []:Int)=((aF l).length:Int):=by rw[hro,c];simp[aJ]
  rw[e,hg,if_pos (.inr rfl),Dg c,vx c]
 ·rw[if_neg c]
  have e:((bf l).rows:Int)-(aJ (b6 l):Int)=((aF l).length:Int):=by omega
  rw[e,hg]
  have hne:b6 l≠[]:=by
   intro h
   have:=dE l
   rw[h]at this
   have h2:(aF l).length≤l.length:=List.length_filter_le _ _
   simp at this
   omega
  rw[if_neg (fun h=>h.elim (fun h=>h rfl) hne)]
  unfold gL
  have hnl:=dE l
  simp only
  rw[if_neg (by omega),Bj,if_neg (by simp),zp]
theorem BG(l:List aj)(k w:Int):dN (l.map gZ) k w=dN l k w:=by
 unfold dN cb bL
 rw[CF,BY,yy,List.length_map]
theorem yF{l:List aj}{k w:Int}{s:Sg}(hm:Made l k w s):dN l k (bL l k w)=(s,0):=by
 obtain⟨h1,h2,h3,h4⟩:=hm
 have hw:=(jx h3).1
 have e:bL l k (bL l k w)=bL l k w:=by
  generalize bL l k w=c at*
  exact if_neg (by omega)
 unfold dN
 rw[e,if_neg (by simpa using h1),if_neg (by omega),if_neg (by simpa using h3),h4]
theorem Bg{l:List aj}{k w:Int}{s:Sg}(hm:Made l k w s)(hok:∀v∈l,dI v.i)(c:Int)(r:List Nat):
  eS ⟨k,c,⟨(bf l).rows,(bf l).aB,xl,xl⟩,[],[]⟩ (cg (cb l)++(cY (bf l).mn++(cY (bf l).mx++r)))=(⟨k,c,bf l,cb l,[]⟩,r,0):=by
 have hcs:=mf l
 have hro:=fw l
 have hnu:=iw l
 have hE:=CL l
 have hkk:=((cx _ _).1 hm.lJ).1
 have key:∀ns,jR ⟨k,c,⟨(bf l).rows,(bf l).aB,xl,xl⟩,ns,[]⟩ (cY (bf l).mn++(cY (bf l).mx++r))=(⟨k,c,bf l,ns,[]⟩,r,0):=by
  intro ns
  unfold jR
  simp only
  by_cases h:(bf l).aB=(bf l).rows
  ·have hs:aF l=[]:=List.eq_nil_of_length_eq_zero (by omega)
   obtain⟨e1,e2⟩:=hE.none hs
   rw[if_pos h]
   have ez:bf l=⟨(bf l).rows,(bf l).aB,xl,xl⟩:=by
    generalize bf l=z at*
    obtain⟨a,b,m1,m2⟩:=z
    simp only at e1 e2
    rw[e1,e2]
   have e0:cY xl=[]:=rfl
   rw[e1,e2,e0,←ez]
   rfl
  ·have hs:aF l≠[]:=fun hs=>by rw[hs]at hcs;simp at hcs;omega
   obtain⟨m1,m2⟩:=hE.some hs
   rw[if_neg h]
   have g1:=hm.EW hok _ (km m1) (by simpa using(List.mem_filter.1 m1).2)
   have g2:=hm.EW hok _ (km m2) (by simpa using(List.mem_filter.1 m2).2)
   have o1:=oM (v:=(bf l).mn) (cY (bf l).mx++r) g1.2.2 g1.1 (by rw[g1.2.1];exact hkk)
   have o2:=oM (v:=(bf l).mx) r g2.2.2 g2.1 (by rw[g2.2.1];exact hkk)
   rw[g1.2.1]at o1
   rw[g2.2.1]at o2
   rw[o1]
   simp only
   rw[o2]
   simp
 unfold eS
 simp only
 by_cases h0:(bf l).aB=0
 ·have e:cb l=[]:=if_pos (by omega)
  rw[if_pos h0,e]
  exact key []
 ·have e:cb l=b6 l:=if_neg (by omega)
  have hnl:=dE l
  obtain⟨n1,n2⟩:=Du (b6 l)
  have hpl:=cF (b6 l)
  have hlen:(cg (b6 l)).length=((bf l).rows+7)/8:=by rw[hpl,hnl,hro]
  rw[if_neg h0,e,if_neg (by rw[List.length_append];omega),List.take_left' hlen,List.drop_left' hlen]
  rw[hnl,←hro]at n1 n2
  rw[n1,n2,if_neg (by simp)]
  exact key _
theorem qk{l:List aj}{k w:Int}{s:Sg}(hm:Made l k w s)(hok:∀v∈l,dI v.i){kn cn:Nat}(hk:k=(kn:Int))(hc:bL l k w=(cn:Int))(hl:(ek kn cn s).length≤1048576)(more:List Nat):jP (fc kn cn s++more)=(s,more,0):=by
 have hkk:=((cx _ _).1 hm.lJ).1
 rw[fF]at hkk
 obtain⟨c1,c2,_⟩:=jx hm.Ac
 have hcs:=mf l
 have hro:=fw l
 have hnu:=iw l
 have hl4:=hm.len
 have hz:=Bg hm hok (bL l k w) (cj (aF l) k (bL l k w)).1
 have hv:=AN hm hok
 have hmk:=yF hm
 have hx:ek kn cn s=bq kn++(bq cn++(bq (bf l).rows++(bq (bf l).aB++(cg (cb l)++(cY (bf l).mn++(cY (bf l).mx++(cj (aF l) k (bL l k w)).1)))))):=by
  rw[hm.eq]
  simp[ek,fe]
 have hnf:=CI kn cn (bf l).rows (bf l).aB (by omega) (by omega) (by omega) (by omega) (cg (cb l)++(cY (bf l).mn++(cY (bf l).mx++(cj (aF l) k (bL l k w)).1)))
 rw[←hx]at hnf
 have hh:eD (ek kn cn s)=(⟨k,bL l k w,⟨(bf l).rows,(bf l).aB,xl,xl⟩,[],[]⟩,cg (cb l)++(cY (bf l).mn++(cY (bf l).mx++(cj (aF l) k (bL l k w)).1)),0):=by
  unfold eD
  rw[hnf]
  simp only
  have hho:dR [kn,cn,(bf l).rows,(bf l).aB]=true:=by
   simp only[dR,List.getD_cons_zero,List.getD_cons_succ,Bool.and_eq_true,decide_eq_true_eq]
   omega
  rw[if_neg (by simp),hho,if_neg (by simp)]
  simp only[Db,List.getD_cons_zero,List.getD_cons_succ]
  rw[←hk,←hc]
  rfl
 unfold jP fc
 rw[vH hl]
 simp only
 rw[if_neg (by simp),hh]
 simp only
 rw[if_neg (by simp),hz]
 simp only
 rw[if_neg (by simp)]
 have hs:cw ⟨k,bL l k w,bf l,cb l,[]⟩ (cj (aF l) k (bL l k w)).1=s:=by rw[hm.eq];rfl
 rw[hs]
 unfold jP.yk
 have hsk:s.kind=k:=by rw[hm.eq]
 have hsw:s.aR=bL l k w:=by rw[hm.eq]
 rw[hv]
 simp only
 rw[if_neg (by simp),hsk,hsw,BG,hmk]
 simp only
 rw[if_neg]
 rintro(h|h)
 ·exact h rfl
 ·apply h
  unfold fc
  rw[show k.toNat=kn by omega,show(bL l k w).toNat=cn by omega]
theorem Made.GH{l:List aj}{k w:Int}{s:Sg}(hm:Made l k w s)(hok:∀v∈l,dI v.i){kn cn:Nat}(hk:k=(kn:Int))(hc:bL l k w=(cn:Int)):(ek kn cn s).length≤2700+s.body.length:=by
 have hkk:=((cx _ _).1 hm.lJ).1
 rw[fF]at hkk
 obtain⟨c1,c2,_⟩:=jx hm.Ac
 have hz:tJ (bf l):=uO fun v hv hk=>⟨hok v hv,(hm.EW hok v hv hk).1⟩
 have hnu:=iw l
 have hro:=fw l
 have hcl:=fC (b6 l)
 have hnl:=dE l
 have hml:(cb l).length≤4096:=by have:=hm.len;unfold cb;split;simp;omega
 have hl4:=hm.len
 have hlen1:=bz 10 kn (by omega)
 have hlen2:=bz 10 cn (by omega)
 have hlen3:=bz 10 (bf l).rows (by omega)
 have hlen4:=bz 10 (bf l).aB (by omega)
 have hv1:=dx hz.1.1 hz.1.2
 have hv2:=dx hz.2.1 hz.2.2
 rw[hm.eq]
 unfold ek
 simp only[List.length_append,fe,List.flatMap_cons,List.flatMap_nil,List.length_nil,cF]
 omega
theorem u3(l:List aj)(k:Int):∀n:Nat,(∀c:Int,1≤c→c≤n→(cj l k c).2=0→0≤(dZ l k n).1∧(dZ l k n).1≤((cj l k c).1.length:Int))∧
  (0≤(dZ l k n).1→(dZ l k n).1=((cj l k (dZ l k n).2).1.length:Int))
 |0=>⟨fun c h1 h2=>by omega,fun h=>by exact absurd (show(0:Int)≤-1 from h) (by omega)⟩
 |n+1=>by
  obtain⟨h1,h2⟩:=u3 l k n
  have hst:dZ l k (n+1)=lL l k (dZ l k n) ((n:Int)+1):=rfl
  rw[hst]
  generalize dZ l k n=x at*
  unfold lL
  by_cases c:(cj l k ((n:Int)+1)).2=0∧(x.1<0∨((cj l k ((n:Int)+1)).1.length:Int)<x.1)
  ·rw[if_pos c]
   refine⟨fun d g1 g2 g3=>⟨by simp only;omega,?_⟩,fun _=>rfl⟩
   simp only
   by_cases hd:d=(n:Int)+1
   ·rw[hd];omega
   ·have:=h1 d g1 (by omega) g3
    omega
  ·rw[if_neg c]
   refine⟨fun d g1 g2 g3=>?_,h2⟩
   by_cases hd:d=(n:Int)+1
   ·subst hd
    have:=fun h=>c ⟨g3,h⟩
    omega
   ·exact h1 d g1 (by omega) g3
theorem xE{l:List aj}{k:Int}{s:Sg}(hm:Made l k 0 s){c:Int}(h1:1≤c)(h4:c≤4)(hc:(cj (aF l) k c).2=0):s.body.length≤(cj (aF l) k c).1.length:=by
 obtain⟨g1,g2⟩:=u3 (aF l) k 4
 obtain⟨g3,g4⟩:=g1 c h1 h4 hc
 have hw:bL l k 0=(dZ (aF l) k 4).2:=if_pos rfl
 rw[hm.eq,hw]
 have:=g2 g3
 simp only
 omega
def He:List Nat→Nat
 |[]=>0
 |c::b=>c+256* He b
structure GQ (X0 X:List Nat) (a m i:Nat):Prop where
 len:X.length=X0.length
 byte:∀c∈X,c<256
 num:He X=He X0^^^m* 2^a
 lt:m<2^i
 none:m=0→X=X0
theorem GQ.skip{X0 X:List Nat}{a m i:Nat}(h:GQ X0 X a m i):GQ X0 X a m (i+1):=
 ⟨h.len,h.byte,h.num,Nat.lt_of_lt_of_le h.lt (Nat.pow_le_pow_right (by omega) (by omega)),h.none⟩
theorem wS:∀(c k acc n:Nat),n<128^(k+1)→c<(bq n).length→dd (k+1) acc ((bq n).take c)=(.error 3,[])
 |0,k,acc,n,_,_=>by simp[dd]
 |c+1,k,acc,n,hn,hc=>by
  by_cases h:n<128
  ·rw[cr h]at hc;simp at hc
  ·rw[jf h]at hc⊢
   simp only[List.length_cons,List.take_succ_cons]at hc⊢
   cases k with
   |zero=>simp at hn;omega
   |succ k=>
    have hn2:n/128<128^(k+1):=by rw[Nat.pow_succ 128 (k+1)]at hn;omega
    rw[dd,if_neg (by omega),if_neg (by omega)]
    exact wS c k _ _ hn2 (by omega)
theorem Di{n c:Nat}(hn:n<18446744073709551616)(hc:c<(bq n).length):aN ((bq n).take c)=(0,0,3):=by
 have h:=wS c 9 0 n (Nat.lt_of_lt_of_le hn (by decide)) hc
 unfold aN
 rw[h]
theorem Am{I:List Nat}{m c:Nat}(hl:I.length≤m)(hm:m≤1048576)(hc:c<(ca I).length):dk ((ca I).take c) m=([],[],3):=by
 have hb:(ca I).length=(bq I.length).length+I.length+4:=by simp[ca,dw,Nat.add_assoc]
 rcases Nat.lt_or_ge c (bq I.length).length with h|h
 ·have e:(ca I).take c=(bq I.length).take c:=by
   unfold ca
   rw[List.append_assoc,List.take_append_of_le_length (by omega)]
  unfold dk
  rw[e,Di (by omega) h,if_pos (by simp)]
 ·have e:(ca I).take c=bq I.length++(I++dw (kz I)).take (c-(bq I.length).length):=by
   unfold ca
   rw[List.append_assoc,List.take_append,List.take_of_length_le h]
  have hg:aN ((ca I).take c)=(I.length,(bq I.length).length,0):=by rw[e,fN _ (by omega)]
  have hlen:((ca I).take c).length=c:=by rw[List.length_take];omega
  unfold dk
  rw[hg]
  simp only
  rw[if_neg (by simp),if_neg (by omega),hlen,if_pos (by omega)]
theorem Made.small{l:List aj}{k:Int}{s:Sg}(hm:Made l k 0 s)(hok:∀v∈l,dI v.i)(hl:l.length≤1000):s.body.length≤1035000:=by
 have hb:cj (aF l) k 1=(iR (aF l) k,aQ (aF l) k):=if_pos rfl
 have h:=xE hm (c:=1) (by omega) (by omega) (by rw[hb];exact hm.lJ)
 rw[hb,show iR (aF l) k=a8 (aF l)from if_pos hm.lJ]at h
 have hv:=((cx _ _).1 hm.lJ).2.2
 have h2:=jy (aF l) fun v hv2=>⟨hok v (km hv2),(hv v hv2).2⟩
 have h3:(aF l).length≤l.length:=List.length_filter_le _ _
 simp only at h
 omega
theorem Bt{I:List Nat}{c:Nat}(hl:I.length≤1048576)(hc:c<(ca I).length):(jP ((ca I).take c)).2.2=3:=by
 unfold jP
 rw[Am hl (Nat.le_refl _) hc]
 rfl
def tK:List aj→Nat→Nat
 |[],n=>n
 |v::r,n=>if n≤100000 then tK r (n+v.s.size)else n
theorem rJ(v:aj)(r:List aj)(n:Nat):tK (v::r) n=if n≤100000 then tK r (n+v.s.size)else n:=rfl
def pg(l:List aj):Bool:=decide (l.length≤1000)&&decide (tK l 0≤100000)
theorem xf{l:List aj}(h:pg l=true):l.length≤1000:=by
 unfold pg at h
 simp at h
 exact h.1
theorem qf(l:List aj)(nn:Bool)(H:aa)(hl:l.length≤1000000000000000)(hs:∀v∈l,v.s.size≤140737488351232):ah Tryz.prog 13 [.d (.list nn (l.map aj.enc))] H (.ok (bA (pg l))) H:=by
 refine ah.ao (hint:=(fun _=>false)) Tryz.func13 (by kernel_rfl) rfl [2] (by kernel_rfl) (by decide) (by simp[Tryz.ntmps13]) ?_
 rw[Tryz.ntmps13]
 simp -implicitDefEqProofs only[go_sem]
 refine cK _ _ _ _ (fun(k:Nat) s H'=>H'=H∧k≤l.length∧(∃n:Nat,n≤150000000000000∧tK l 0=tK (l.drop k) n∧s 3=iA n)∧s 0= .d (.list nn (l.map aj.enc))∧s 4=iA k) (fun k=>l.length-k) 0 (az.refl _ _) ?_ ?_
 ·refine⟨rfl,Nat.zero_le _,⟨0,by omega,rfl,?_⟩,?_⟩
  ·simp -implicitDefEqProofs only[↓reduceIte,go_sem,Nat.reduceLT,Nat.reduceEqDiff,eq_self]
  ·simp -implicitDefEqProofs only[↓reduceIte,go_sem,Nat.reduceLT,reduceCtorEq,eq_self]
 ·rintro k s H' ⟨rfl,hk,⟨n,hn,hf,t3⟩,t0,t4⟩
  have hw1:IntKind.i64.wrap ((k:Int)+1)=(k:Int)+1:=wrap64_in _ (by omega) (by omega)
  have fin:(k=l.length∨100000<n)→tK l 0=n:=by
   rintro(h|h)
   ·rw[hf,List.drop_of_length_le (by omega)];rfl
   ·rw[hf]
    cases l.drop k with
    |nil=>rfl
    |cons v r=>rw[rJ,if_neg (by omega)]
  by_cases hkl:k<l.length
  ·by_cases hn2:n≤100000
   ·have hx:=List.getElem?_eq_getElem hkl
    have e1:=List.drop_eq_getElem_cons hkl
    have hxs:=hs _ (List.getElem_mem hkl)
    generalize l[k]=x at hx e1 hxs
    have hf2:tK l 0=tK (l.drop (k+1)) (n+x.s.size):=by rw[hf,e1,rJ,if_pos hn2]
    obtain⟨n2,hn2'⟩:∃n2,n2=n+x.s.size:=⟨_,rfl⟩
    have hw2:IntKind.i64.wrap ((n:Int)+(x.s.size:Int))=(n2:Int):=by rw[wrap64_in _ (by omega) (by omega)];omega
    simp -implicitDefEqProofs only[↓reduceIte,go_sem,Nat.reduceLT,Nat.reduceEqDiff,reduceCtorEq,eq_self,t0,t3,t4,eq_true hkl,show((n:Int)≤100000)=True from eq_true (by omega)]
    simp -implicitDefEqProofs only[↓reduceIte,go_sem,Nat.reduceAdd,Nat.reduceLT,Nat.reduceLeDiff,Nat.reduceEqDiff,eq_self,t4,hx,aj.enc,hw2,hw1]
    refine⟨_,_,k+1,az.refl _ _,⟨rfl,hkl,⟨n2,by omega,by rw[hn2'];exact hf2,?_⟩,?_⟩,by omega⟩
    ·simp -implicitDefEqProofs only[↓reduceIte,go_sem,Nat.reduceLT,Nat.reduceEqDiff,eq_self]
    ·simp -implicitDefEqProofs only[↓reduceIte,go_sem,Nat.reduceLT,reduceCtorEq,eq_self,t0]
   ·simp -implicitDefEqProofs only[↓reduceIte,go_sem,Nat.reduceLT,Nat.reduceEqDiff,reduceCtorEq,eq_self,t0,t3,t4,eq_true hkl,show((n:Int)≤100000)=False from eq_false (by omega)]
    have hfe:pg l=false:=by unfold pg;rw[fin (.inr (by omega))];simp;omega
    by_cases h1:l.length≤1000
    ·simp -implicitDefEqProofs only[↓reduceIte,go_sem,Nat.reduceLT,Nat.reduceEqDiff,eq_self,t3,show((l.length:Int)≤1000)=True from eq_true (by omega),show((n:Int)≤100000)=False from eq_false (by omega)]
     refine aC.bC ?_
     simp -implicitDefEqProofs only[↓reduceIte,go_sem,Nat.reduceLT,eq_self,hfe]
    ·simp -implicitDefEqProofs only[↓reduceIte,go_sem,Nat.reduceLT,Nat.reduceEqDiff,reduceCtorEq,eq_self,show((l.length:Int)≤1000)=False from eq_false (by omega)]
     refine aC.bC ?_
     simp -implicitDefEqProofs only[↓reduceIte,go_sem,Nat.reduceLT,eq_self,hfe]
  ·simp -implicitDefEqProofs only[↓reduceIte,go_sem,Nat.reduceLT,Nat.reduceEqDiff,reduceCtorEq,eq_self,t0,t4,eq_false hkl]
   have hfe:pg l=(decide (l.length≤1000)&&decide (n≤100000)):=by unfold pg;rw[fin (.inl (by omega))]
   by_cases h1:l.length≤1000
   ·by_cases h2:n≤100000
    ·simp -implicitDefEqProofs only[↓reduceIte,go_sem,Nat.reduceLT,Nat.reduceEqDiff,eq_self,t3,show((l.length:Int)≤1000)=True from eq_true (by omega),show((n:Int)≤100000)=True from eq_true (by omega)]
     refine aC.bC ?_
     simp -implicitDefEqProofs only[↓reduceIte,go_sem,Nat.reduceLT,eq_self,hfe,h1,h2,Bool.and_self]
    ·simp -implicitDefEqProofs only[↓reduceIte,go_sem,Nat.reduceLT,Nat.reduceEqDiff,eq_self,t3,show((l.length:Int)≤1000)=True from eq_true (by omega),show((n:Int)≤100000)=False from eq_false (by omega)]
     refine aC.bC ?_
     simp -implicitDefEqProofs only[↓reduceIte,go_sem,Nat.reduceLT,eq_self,hfe,h1,h2,Bool.and_false]
   ·simp -implicitDefEqProofs only[↓reduceIte,go_sem,Nat.reduceLT,Nat.reduceEqDiff,reduceCtorEq,eq_self,show((l.length:Int)≤1000)=False from eq_false (by omega)]
    refine aC.bC ?_
    simp -implicitDefEqProofs only[↓reduceIte,go_sem,Nat.reduceLT,eq_self,hfe,h1,Bool.false_and]
def bH:List aj:=[ct 5,ct 5,ct 5,ct 5]
theorem yX:aW aU bH=[ct 5]:=by
 have vv:=bF.self (ct 5)
 simp[bH,aW,St.bX,St.ins,oO,vv,St.aY,St.qM]
theorem I2:fZ (ct 5).i=10:=by decide
theorem p3:cY (ct 5)=[10]:=by
 unfold cY
 rw[if_pos (show(ct 5).kind=1 from rfl),I2,cr (by decide)]
theorem uQ:∀v∈bH,v=ct 5:=by simp[bH]
theorem c8:aQ bH 1=0:=zm (fun v hv=>⟨5,uQ v hv⟩) (by decide)
theorem AW:c5 bH=[(4,ct 5)]:=by decide+kernel
theorem ux:ey (c5 bH)=[4,10]:=by
 rw[AW]
 simp only[ey,lf,List.flatMap_cons,List.flatMap_nil,List.append_nil,p3]
 rw[cr (by decide)]
 rfl
theorem FJ:a8 bH=[10,10,10,10]:=by
 simp only[a8,bH,List.flatMap_cons,List.flatMap_nil,List.append_nil,p3]
 rfl
theorem AQ:fb bH=[1,10]:=by
 unfold fb
 rw[yX]
 have h3:cN (bH.map (ea bH)) (eC [ct 5].length)=[]:=by
  have:eC [ct 5].length=0:=by decide
  rw[this]
  unfold cN
  apply List.eq_nil_of_length_eq_zero
  rw[cF,en]
  simp
 rw[h3]
 simp only[a8,List.flatMap_cons,List.flatMap_nil,List.append_nil,p3,List.length_singleton]
 rw[cr (by decide)]
 rfl
theorem yb:kI bH=[10,0]:=by
 unfold kI
 rw[if_pos ⟨c8,by decide⟩]
 unfold gI
 have h1:bY bH=[0,0,0]:=by decide+kernel
 rw[h1]
 have h2:db [0,0,0]=0:=by decide
 have h3:cN [0,0,0] 0=[]:=by decide+kernel
 simp only[bH]
 rw[h2,h3,I2,cr (by decide),cr (by decide)]
 rfl
theorem si:aF bH=bH:=by decide+kernel
theorem BX:pS bH 1=2:=by
 have b1:cj bH 1 1=([10,10,10,10],0):=by
  unfold cj;rw[if_pos rfl,c8,show iR bH 1=a8 bH from if_pos c8,FJ]
 have b2:cj bH 1 2=([4,10],0):=by
  unfold cj;rw[if_neg (by decide),if_pos rfl,c8,show sr bH 1=ey (c5 bH)from if_pos c8,ux]
 have b3:cj bH 1 3=([1,10],0):=by
  unfold cj;rw[if_neg (by decide),if_neg (by decide),if_pos rfl,c8,show lF bH 1=fb bH from if_pos c8,AQ]
 have b4:cj bH 1 4=([10,0],0):=by
  unfold cj;rw[if_neg (by decide),if_neg (by decide),if_neg (by decide),if_pos ⟨rfl,rfl⟩,c8,yb]
 have s0:dZ bH 1 0=(-1,0):=rfl
 have st:∀n,dZ bH 1 (n+1)=lL bH 1 (dZ bH 1 n) ((n:Int)+1):=fun n=>rfl
 have s1:dZ bH 1 1=(4,1):=by rw[st 0,s0];unfold lL;simp[b1]
 have s2:dZ bH 1 2=(2,2):=by rw[st 1,s1];unfold lL;simp[b2]
 have s3:dZ bH 1 3=(2,2):=by rw[st 2,s2];unfold lL;simp[b3]
 have s4:dZ bH 1 4=(2,2):=by rw[st 3,s3];unfold lL;simp[b4]
 unfold pS
 rw[s4]
theorem nG:dN bH 1 0=(⟨1,2,bf bH,[],[4,10]⟩,0):=by
 have hw:bL bH 1 0=2:=by unfold bL;rw[if_pos rfl,si,BX]
 have b2:cj bH 1 2=([4,10],0):=by
  unfold cj;rw[if_neg (by decide),if_pos rfl,c8,show sr bH 1=ey (c5 bH)from if_pos c8,ux]
 unfold dN cb
 rw[si,hw,c8,b2,if_neg (by decide),if_neg (by decide),if_neg (by decide),if_pos rfl]
theorem nd:Made bH 1 0 ⟨1,2,bf bH,[],[4,10]⟩:=by
 have h:=kO (l:=bH) (k:=1) (w:=0) (by rw[nG])
 rwa[nG]at h
theorem oT:∀v∈bH,dI v.i:=fun v hv=>by rw[uQ v hv];exact⟨by decide,by decide⟩
theorem sv(H:aa):ah Tryz.prog 7 [] H (.ok (bA true)) H:=by
 have hm:=fun H=>kU bH 1 0 oT (by decide) H
 rw[nG]at hm
 obtain⟨kn,cn,h1,_,_,h4,_,_,h7,h8,_,hB⟩:=nd.bytes oT
 have hil:=nd.GH oT h1 h4
 have hbk:=qk nd oT h1 h4 (by simp only[List.length_cons,List.length_nil]at hil;omega) [9]
 have hbl:(fc kn cn ⟨1,2,bf bH,[],[4,10]⟩).length≤1000000:=by
  have:=bz 10 (ek kn cn ⟨1,2,bf bH,[],[4,10]⟩).length (by omega)
  simp only[List.length_cons,List.length_nil]at hil
  unfold fc ca
  simp only[List.length_append,dw,List.length_cons,List.length_nil]
  omega
 have hby:=kV h7 h8
 have hof:=fun H=>jI (fc kn cn ⟨1,2,bf bH,[],[4,10]⟩++[9]) (hby.app (by intro c hc;simp at hc;omega)) (by rw[List.length_append];simp;omega) H
 rw[hbk]at hof
 have hro:(bf bH).rows=4:=fw bH
 have hin:bH.map aj.enc=[(ct 5).enc,(ct 5).enc,(ct 5).enc,(ct 5).enc]:=rfl
 rw[hin]at hm
 generalize (bq (ek kn cn ⟨1,2,bf bH,[],[4,10]⟩).length).length+2=ver at*
 generalize fc kn cn ⟨1,2,bf bH,[],[4,10]⟩=B at*
 generalize bf bH=z at*
 obtain⟨zr,zn,zmn,zmx⟩:=z
 simp only at hro
 subst hro
 simp only[Sg.cs]at hm hB hof
 have e1:(eW [9]).toList=[9]:=jc [9]
 have e2:(⟨#[9]⟩:ByteArray).toList=[9]:=by rw[ByteArray.toList_eq]
 have e:((eW [9]).toList==(⟨#[9]⟩:ByteArray).toList)=true:=by rw[e1,e2];decide
 have hB2:∀o1 o2:aE,_:=fun o1 o2=>hB (H++[o1,o2])
 simp only[List.length_append,List.append_assoc,List.cons_append,List.nil_append,List.length_cons,List.length_nil,Nat.zero_add,Nat.add_assoc,Nat.reduceAdd]at hB2
 refine ah.ao (hint:=(fun _=>false)) Tryz.func7 (by kernel_rfl) rfl [0] (by kernel_rfl) (by decide) (by simp[Tryz.ntmps7]) ?_
 rw[Tryz.ntmps7]
 simp -implicitDefEqProofs only[↓reduceIte,go_sem,ai,aq,Nat.reduceAdd,Nat.reduceMul,Nat.reduceLT,Nat.reduceLeDiff,Nat.reduceEqDiff,eq_self]
 refine ae.sub (.cons (.nn _) (.cons (.refl _) (.cons (.refl _) .nil))) (hm _) ?_
 simp -implicitDefEqProofs only[↓reduceIte,go_sem,ai,aq,Nat.reduceAdd,Nat.reduceLT,Nat.reduceEqDiff,eq_self]
 refine ae.ok (hB2 _ _) ?_
 simp -implicitDefEqProofs only[↓reduceIte,go_sem,Nat.reduceAdd,Nat.reduceLT,Nat.reduceLeDiff,Nat.reduceEqDiff,eq_self,au]
 refine⟨by omega,by omega,?_⟩
 have e9:aL B++[[D.v (.int .u8 9)]]=aL (B++[9]):=by rw[←et];rfl
 rw[e9]
 refine ae.oR [] (e:=5) (k:=1) (ver:=ver+1) (es:=aL (B++[9])) (by simp) (by rw[List.drop_zero,List.take_of_length_le (by rw[au];simp)];exact hof _) ?_
 have b9:aL [4,10]=[[D.v (.int .u8 4)],[D.v (.int .u8 10)]]:=rfl
 simp -implicitDefEqProofs only[↓reduceIte,go_sem,ai,aq,Nat.reduceAdd,Nat.reduceLT,Nat.reduceLeDiff,Nat.reduceEqDiff,eq_self,dD,e,List.length_cons,List.length_nil,b9]
 refine aC.ret ?_
 simp -implicitDefEqProofs only[↓reduceIte,go_sem,Nat.reduceLT,eq_self]
def vW(r n k i:Int)(s:ByteArray)(l j:Int)(t:ByteArray)(r' n' k' i':Int)(s':ByteArray)(l' j':Int)(t':ByteArray):Bool:=(r==r')&&((n==n')&&(j5 k i s k' i' s'&&(j5 l j t l' j' t'&&true)))
theorem Fh(r n k i:Int)(s:ByteArray)(l j:Int)(t:ByteArray)(r' n' k' i':Int)(s':ByteArray)(l' j':Int)(t':ByteArray):
  bV Tryz.prog .eql 27 (.agg #[.int .i64 r,.int .i64 n,.int .i64 k,.int .i64 i,.string s,.int .i64 l,.int .i64 j,.string t]) (.agg #[.int .i64 r',.int .i64 n',.int .i64 k',.int .i64 i',.string s',.int .i64 l',.int .i64 j',.string t']) (.bool (vW r n k i s l j t r' n' k' i' s' l' j' t'))∧
  bV Tryz.prog .neq 27 (.agg #[.int .i64 r,.int .i64 n,.int .i64 k,.int .i64 i,.string s,.int .i64 l,.int .i64 j,.string t]) (.agg #[.int .i64 r',.int .i64 n',.int .i64 k',.int .i64 i',.string s',.int .i64 l',.int .i64 j',.string t']) (.bool !(vW r n k i s l j t r' n' k' i' s' l' j' t')):=
 bV.KS (by kernel_rfl) (by kernel_rfl) (by kernel_rfl) (fs:=[(true,3,0),(true,3,1),(true,25,2),(true,25,5)]) (by kernel_rfl) fun w=>
  oQ K.Ju K.C6 rfl rfl (oQ K.Ju K.C6 rfl rfl (qo K.Ef K.GI (by kernel_rfl) (by kernel_rfl) (by kernel_rfl) (tN w 9997 k i s k' i' s')
   (qo K.Ef K.GI (by kernel_rfl) (by kernel_rfl) (by kernel_rfl) (tN w 9997 l j t l' j' t') zP)))
theorem wG(r n k i:Int)(s:ByteArray)(l j:Int)(t:ByteArray)(r' n' k' i':Int)(s':ByteArray)(l' j':Int)(t':ByteArray)(K:Value→Prop):cI Tryz.prog .eql 27 (.agg #[.int .i64 r,.int .i64 n,.int .i64 k,.int .i64 i,.string s,.int .i64 l,.int .i64 j,.string t]) (.agg #[.int .i64 r',.int .i64 n',.int .i64 k',.int .i64 i',.string s',.int .i64 l',.int .i64 j',.string t']) K=K (.bool (vW r n k i s l j t r' n' k' i' s' l' j' t')):=qe (Fh ..).1 K
theorem C5(y z:Zn):vW y.rows y.aB y.mn.kind y.mn.i y.mn.s y.mx.kind y.mx.i y.mx.s z.rows z.aB z.mn.kind z.mn.i z.mn.s z.mx.kind z.mx.i z.mx.s=decide (y=z):=by
 cases y with|mk a b c d=>
 cases z with|mk a' b' c' d'=>
 simp only[vW,jn]
 rw[Bool.eq_iff_iff]
 simp[Int.natCast_inj]
attribute [go_sem] wG
theorem uu(l m:List Bool)(n1 n2:Bool)(H:aa)(hl:l.length≤1000000000):
  ah Tryz.prog 27 [.d (.list n1 (bZ l)),.d (.list n2 (bZ m))] H (.ok (bA (decide (l=m)))) H:=by
 have bl:∀l:List Bool,(bZ l).length=l.length:=fun l=>by simp[bZ]
 have bg:∀(l:List Bool) k (h:k<l.length),(bZ l)[k]?=some [.v (.bool l[k])]:=fun l k h=>by simp[bZ,h]
 refine ah.ao (hint:=(fun _=>false)) Tryz.func27 (by kernel_rfl) rfl [4] (by kernel_rfl) (by decide) (by simp[Tryz.ntmps27]) ?_
 rw[Tryz.ntmps27]
 simp -implicitDefEqProofs only[↓reduceIte,go_sem,Nat.reduceLT,Nat.reduceEqDiff,reduceCtorEq,eq_self,bl]
 by_cases hlm:l.length=m.length
 ·refine hH (by simp -implicitDefEqProofs only[go_sem,eq_self,hlm]) ?_
  simp -implicitDefEqProofs only[go_sem]
  refine fP (fun k s H'=>H'=H∧l.take k=m.take k∧s 0= .d (.list n1 (bZ l))∧s 1= .d (.list n2 (bZ m))∧s 5=iA k) l.length (by omega) (az.refl _ _) ?_ ?_ ?_
  ·simp -implicitDefEqProofs only[↓reduceIte,go_sem,Nat.reduceLT,Nat.reduceEqDiff,reduceCtorEq,eq_self,List.take_zero]
  ·rintro k s H' hk hw ⟨rfl,hp,h0,h1,h5⟩
   have hx:=bg l k hk
   have hy:=bg m k (by omega)
   have e1:=List.take_succ_eq_append_getElem hk
   have e2:=List.take_succ_eq_append_getElem (show k<m.length by omega)
   have e3:∀(g:l=m),l[k]=m[k]'(by omega):=by intro g;subst g;rfl
   generalize l[k]=x at hx e1 e3
   generalize m[k]'(by omega)=y at hy e2 e3
   simp -implicitDefEqProofs only[↓reduceIte,go_sem,Nat.reduceLT,Nat.reduceEqDiff,reduceCtorEq,eq_self,h0,h5,hk,bl]
   refine bQ K.mixed (by kernel_rfl) ?_
   simp -implicitDefEqProofs only[↓reduceIte,go_sem,Nat.reduceLT,Nat.reduceEqDiff,reduceCtorEq,eq_self,h0,h1,h5,hx,hy]
   by_cases hxy:x=y
   ·refine hH (by simp -implicitDefEqProofs only[go_sem,eq_self,hxy,bne_self_eq_false]) ?_
    simp -implicitDefEqProofs only[↓reduceIte,go_sem,Nat.reduceLT,Nat.reduceEqDiff,eq_self,h5]
    refine fj.same ⟨rfl,by rw[e1,e2,hp,hxy],?_⟩
    simp -implicitDefEqProofs only[↓reduceIte,go_sem,Nat.reduceLT,Nat.reduceEqDiff,reduceCtorEq,eq_self,h0,h1,hw]
   ·refine gM (by simp -implicitDefEqProofs only[go_sem,eq_self,show(x !=y)=true from bne_iff_ne.2 hxy]) ?_
    simp -implicitDefEqProofs only[go_sem]
    refine aC.bC ?_
    have:¬l=m:=fun g=>hxy (e3 g)
    simp -implicitDefEqProofs only[↓reduceIte,go_sem,Nat.reduceLT,eq_self,this,decide_false]
  ·rintro s H' ⟨rfl,hp,h0,h1,h5⟩
   rw[List.take_length,hlm,List.take_length]at hp
   simp -implicitDefEqProofs only[↓reduceIte,go_sem,Nat.reduceLT,Nat.reduceEqDiff,reduceCtorEq,eq_self,h0,h5,bl]
   refine aC.bC ?_
   simp -implicitDefEqProofs only[↓reduceIte,go_sem,Nat.reduceLT,eq_self,hp]
 ·refine gM (by simp -implicitDefEqProofs only[go_sem,eq_self,show((l.length:Int)=(m.length:Int))=False from eq_false (by omega)]) ?_
  simp -implicitDefEqProofs only[go_sem]
  refine aC.bC ?_
  have:¬l=m:=fun g=>hlm (by rw[g])
  simp -implicitDefEqProofs only[↓reduceIte,go_sem,Nat.reduceLT,eq_self,this,decide_false]
theorem wX(s:Sg)(H:aa):ah Tryz.prog 12 [.agg s.cs] H (.ok (.agg s.cs)) H:=by
 refine ah.bR (hint:=fun _=>false) Tryz.func12 (by kernel_rfl) rfl [.cell 2 34] (by kernel_rfl) (by simp[Tryz.ntmps12]) ?_
 rw[Tryz.ntmps12]
 simp -implicitDefEqProofs only[↓reduceIte,go_sem,ai,aq,Nat.reduceAdd,Nat.reduceLT,Nat.reduceLeDiff,Nat.reduceEqDiff,eq_self,Sg.cs]
 refine bG.ret ?_
 simp -implicitDefEqProofs only[↓reduceIte,go_sem,ai,Nat.reduceAdd,Nat.reduceLT,Nat.reduceLeDiff,Nat.reduceEqDiff,eq_self,aO,bP]
theorem wa(a b:Sg)(H:aa)(hl:a.aB.length≤1000000000)(ba:cf a.body)(bb:cf b.body):ah Tryz.prog 11 [.agg a.cs,.agg b.cs] H (.ok (bA (decide (a=b)))) H:=by
 have hs:=fun H=>uu a.aB b.aB false false H hl
 have hd:=wN ba bb
 have hz:=C5 a.aP b.aP
 have hab:a=b↔a.kind=b.kind∧a.aR=b.aR∧a.aP=b.aP∧a.aB=b.aB∧a.body=b.body:=by
  cases a;cases b;simp
 have hab:decide (a=b)=(decide (a.kind=b.kind)&&decide (a.aR=b.aR)&&decide (a.aP=b.aP)&&decide (a.aB=b.aB)&&decide (a.body=b.body)):=by
  rw[Bool.eq_iff_iff]
  simp[hab,and_assoc]
 rw[hab]
 clear hab
 obtain⟨ak,ac,⟨ar,an,⟨k1,i1,s1⟩,⟨k2,i2,s2⟩⟩,al,ab⟩:=a
 obtain⟨bk,bc,⟨br,bn,⟨k3,i3,s3⟩,⟨k4,i4,s4⟩⟩,bl,bd⟩:=b
 simp only at*
 have fin:∀q:Bool,q=(decide (ak=bk)&&decide (ac=bc)&&decide (Zn.mk ar an ⟨k1,i1,s1⟩ ⟨k2,i2,s2⟩=Zn.mk br bn ⟨k3,i3,s3⟩ ⟨k4,i4,s4⟩)&&decide (al=bl)&&decide (ab=bd))→ah Tryz.prog 11 [.agg (Sg.cs ⟨ak,ac,⟨ar,an,⟨k1,i1,s1⟩,⟨k2,i2,s2⟩⟩,al,ab⟩),.agg (Sg.cs ⟨bk,bc,⟨br,bn,⟨k3,i3,s3⟩,⟨k4,i4,s4⟩⟩,bl,bd⟩)] H (.ok (bA q)) H:=by
  intro q hq
  generalize decide (al=bl)=q4 at*
  generalize decide (ab=bd)=q5 at*
  generalize decide (Zn.mk ar an ⟨k1,i1,s1⟩ ⟨k2,i2,s2⟩=Zn.mk br bn ⟨k3,i3,s3⟩ ⟨k4,i4,s4⟩)=q3 at*
  refine ah.ao (hint:=(fun _=>false)) Tryz.func11 (by kernel_rfl) rfl [4] (by kernel_rfl) (by decide) (by simp[Tryz.ntmps11]) ?_
  rw[Tryz.ntmps11]
  by_cases h1:ak=bk
  ·by_cases h2:ac=bc
   ·cases q3
    ·simp -implicitDefEqProofs only[↓reduceIte,go_sem,ai,Nat.reduceAdd,Nat.reduceLT,Nat.reduceLeDiff,Nat.reduceEqDiff,reduceCtorEq,eq_self,Sg.cs,h1,h2,hz]
     refine aC.ret ?_
     simp -implicitDefEqProofs only[↓reduceIte,go_sem,Nat.reduceLT,eq_self,hq,h1,h2,Bool.and_false,Bool.false_and]
    ·simp -implicitDefEqProofs only[↓reduceIte,go_sem,ai,Nat.reduceAdd,Nat.reduceLT,Nat.reduceLeDiff,Nat.reduceEqDiff,eq_self,Sg.cs,h1,h2,hz]
     refine ae.ok (hs _) ?_
     cases q4
     ·simp -implicitDefEqProofs only[↓reduceIte,go_sem,Nat.reduceLT,Nat.reduceEqDiff,reduceCtorEq,eq_self]
      refine aC.ret ?_
      simp -implicitDefEqProofs only[↓reduceIte,go_sem,Nat.reduceLT,eq_self,hq,h1,h2,Bool.and_false,Bool.false_and]
     ·simp -implicitDefEqProofs only[↓reduceIte,go_sem,ai,Nat.reduceAdd,Nat.reduceLT,Nat.reduceEqDiff,eq_self,dD,kK,hd]
      refine aC.ret ?_
      simp -implicitDefEqProofs only[↓reduceIte,go_sem,Nat.reduceLT,eq_self,hq,h1,h2,decide_true,Bool.true_and]
   ·simp -implicitDefEqProofs only[↓reduceIte,go_sem,ai,Nat.reduceAdd,Nat.reduceLT,Nat.reduceLeDiff,Nat.reduceEqDiff,reduceCtorEq,eq_self,Sg.cs,h1,h2]
    refine aC.ret ?_
    simp -implicitDefEqProofs only[↓reduceIte,go_sem,Nat.reduceLT,eq_self,hq,h2,decide_false,Bool.and_false,Bool.false_and]
  ·simp -implicitDefEqProofs only[↓reduceIte,go_sem,ai,Nat.reduceAdd,Nat.reduceLT,Nat.reduceLeDiff,Nat.reduceEqDiff,reduceCtorEq,eq_self,Sg.cs,h1]
   refine aC.ret ?_
   simp -implicitDefEqProofs only[↓reduceIte,go_sem,Nat.reduceLT,eq_self,hq,h1,decide_false,Bool.false_and]
 exact fin _ rfl
theorem Bo(H xs ys:aa):Ext (H++xs) (H++(xs++ys)):=by rw[←List.append_assoc];exact Ext.app _ _
theorem tY(l m:List aj)(k:Int)(c:Nat)(hc:c≤65535)(hl:l.length≤140737488351232)(hls:∀v∈l,v.Ok)(hm:m.length≤140737488351232)(hms:∀v∈m,v.Ok)(H:aa):
  ah Tryz.prog 6 [.d (.list false (l.map aj.enc)),.d (.list false (m.map aj.enc)),iA k,.d (.v (.int .u16 c))] H (.ok (bA true)) H:=by
 have hfl:=fun H=>qf l false H (by omega) (fun v hv=>(hls v hv).s)
 have hfm:=fun H=>qf m false H (by omega) (fun v hv=>(hms v hv).s)
 refine ah.ao (hint:=(fun t=>t==18||t==1000012)) Tryz.func6 (by kernel_rfl) rfl [8] (by kernel_rfl) (by decide) (by simp[Tryz.ntmps6]) ?_
 rw[Tryz.ntmps6]
 simp -implicitDefEqProofs only[go_sem,Nat.reduceAdd,Nat.reduceBEq]
 refine ae.ok (sv _) ?_
 simp -implicitDefEqProofs only[↓reduceIte,go_sem,Nat.reduceAdd,Nat.reduceLT,Nat.reduceBEq,reduceCtorEq,eq_self]
 refine ae.ok (hfl _) ?_
 by_cases hf:pg l=false
 ·simp -implicitDefEqProofs only[↓reduceIte,go_sem,Nat.reduceLT,Nat.reduceEqDiff,eq_self,hf]
  refine aC.bC ?_
  simp -implicitDefEqProofs only[↓reduceIte,go_sem,Nat.reduceLT,eq_self]
 have hf:pg l=true:=by simpa using hf
 simp -implicitDefEqProofs only[↓reduceIte,go_sem,Nat.reduceLT,Nat.reduceEqDiff,eq_self,hf]
 refine ae.ok (hfm _) ?_
 by_cases hg:pg m=false
 ·simp -implicitDefEqProofs only[↓reduceIte,go_sem,Nat.reduceLT,Nat.reduceEqDiff,reduceCtorEq,eq_self,hg]
  refine aC.bC ?_
  simp -implicitDefEqProofs only[↓reduceIte,go_sem,Nat.reduceLT,eq_self]
 have hg:pg m=true:=by simpa using hg
 have hll:=xf hf
 have hlm:=xf hg
 have okl:∀v∈l,dI v.i:=fun v hv=>(hls v hv).i
 have okm:∀v∈m,dI v.i:=fun v hv=>(hms v hv).i
 have mkl:=fun H=>kU l k 0 okl (by omega) H
 have mkm:=fun H=>kU m k 0 okm (by omega) H
 have mdl:=kO (l:=l) (k:=k) (w:=0)
 have mdm:=kO (l:=m) (k:=k) (w:=0)
 generalize dN l k 0=q at*
 obtain⟨s,e⟩:=q
 generalize dN m k 0=q at*
 obtain⟨t,f⟩:=q
 simp only at mkl mkm mdl mdm
 by_cases he:e≠0
 ·obtain⟨sk,sw,⟨zr,zn,mn,mx⟩,ns,bd⟩:=s
  obtain⟨tk,tw,⟨yr,yn,m3,m4⟩,ms,bc⟩:=t
  simp only[Sg.cs]at mkl mkm
  simp -implicitDefEqProofs only[↓reduceIte,go_sem,Nat.reduceAdd,Nat.reduceLT,Nat.reduceEqDiff,Nat.reduceBEq,reduceCtorEq,eq_self,hg]
  refine ae.ok (mkl _) ?_
  simp -implicitDefEqProofs only[↓reduceIte,go_sem,aq,Nat.reduceAdd,Nat.reduceLT,Nat.reduceEqDiff,Nat.reduceBEq,eq_self]
  refine ae.ok (mkm _) ?_
  simp -implicitDefEqProofs only[↓reduceIte,go_sem,aq,Nat.reduceAdd,Nat.reduceLT,Nat.reduceEqDiff,Nat.reduceBEq,eq_self,he]
  refine aC.ret ?_
  simp -implicitDefEqProofs only[↓reduceIte,go_sem,Nat.reduceLT,eq_self]
 obtain rfl:e=0:=by simpa using he
 by_cases hf0:f≠0
 ·obtain⟨sk,sw,⟨zr,zn,mn,mx⟩,ns,bd⟩:=s
  obtain⟨tk,tw,⟨yr,yn,m3,m4⟩,ms,bc⟩:=t
  simp only[Sg.cs]at mkl mkm
  simp -implicitDefEqProofs only[↓reduceIte,go_sem,Nat.reduceAdd,Nat.reduceLT,Nat.reduceEqDiff,Nat.reduceBEq,reduceCtorEq,eq_self,hg]
  refine ae.ok (mkl _) ?_
  simp -implicitDefEqProofs only[↓reduceIte,go_sem,aq,Nat.reduceAdd,Nat.reduceLT,Nat.reduceEqDiff,Nat.reduceBEq,eq_self]
  refine ae.ok (mkm _) ?_
  simp -implicitDefEqProofs only[↓reduceIte,go_sem,aq,Nat.reduceAdd,Nat.reduceLT,Nat.reduceEqDiff,Nat.reduceBEq,reduceCtorEq,eq_self,hf0]
  refine aC.ret ?_
  simp -implicitDefEqProofs only[↓reduceIte,go_sem,Nat.reduceLT,eq_self]
 obtain rfl:f=0:=by simpa using hf0
 have mdl:=mdl rfl
 have mdm:=mdm rfl
 obtain⟨kn,cn,k1,_,_,k4,_,_,k7,k8,kB,_⟩:=mdl.bytes okl
 obtain⟨ln,dn,l1,_,_,l4,_,_,l7,l8,lB,_⟩:=mdm.bytes okm
 have sl:=mdl.small okl hll
 have sm:=mdm.small okm hlm
 have il:=mdl.GH okl k1 k4
 have im:=mdm.GH okm l1 l4
 have bkl:=qk mdl okl k1 k4 (by omega)
 have bkm:=qk mdm okm l1 l4 (by omega) []
 have bk:=bkl (fc ln dn t)
 clear bkl
 rw[List.append_nil]at bkm
 have byl:=kV k7 k8
 have bym:=kV l7 l8
 have cut:=fun c hc=>Bt (I:=ek kn cn s) (c:=c) (by omega) hc
 have ll:(fc kn cn s).length≤2000000∧4≤(fc kn cn s).length:=by
  have:=bz 10 (ek kn cn s).length (by omega)
  unfold fc ca
  simp only[List.length_append,dw,List.length_cons,List.length_nil]
  omega
 have lm:(fc ln dn t).length≤2000000:=by
  have:=bz 10 (ek ln dn t).length (by omega)
  unfold fc ca
  simp only[List.length_append,dw,List.length_cons,List.length_nil]
  omega
 have ns:t.aB.length≤1000000000:=by
  rw[mdm.eq]
  have:=dE m
  unfold cb
  simp only
  split
  ·simp
  ·omega
 have bt:cf t.body:=fun x hx=>l7 x (by unfold ek;exact List.mem_append_right _ hx)
 have hre:=fun H=>wX t H
 have hsa:=fun H=>wa t t H ns bt bt
 rw[decide_eq_true rfl]at hsa
 change ∀c,c<(fc kn cn s).length→(jP ((fc kn cn s).take c)).2.2=3 at cut
 generalize fc kn cn s=B at*
 generalize fc ln dn t=C at*
 obtain⟨d,hd⟩:∃d,d=c%B.length:=⟨_,rfl⟩
 have hdl:d<B.length:=by rw[hd];exact Nat.mod_lt _ (by omega)
 have cut:=cut d hdl
 have of1:=fun H=>jI (B.take d) (rW byl d) (by rw[List.length_take];omega) H
 have of2:=fun H=>jI (B++C) (byl.app bym) (by rw[List.length_append];omega) H
 have of3:=fun H=>jI C bym (by omega) H
 rw[bk]at of2
 rw[bkm]at of3
 generalize jP (B.take d)=q at*
 obtain⟨u,r,g⟩:=q
 simp only at cut
 subst cut
 have wc:IntKind.i64.wrap (c:Int)=(c:Int):=wrap64_in _ (by omega) (by omega)
 clear mdl mdm k7 l7 k8 l8 hls hms okl okm sl sm il im bt byl bym ns bk bkm
 obtain⟨sk,sw,⟨zr,zn,mn,mx⟩,ns,bd⟩:=s
 obtain⟨tk,tw,⟨yr,yn,m3,m4⟩,ms,bc⟩:=t
 obtain⟨uk,uw,⟨xr,xn,m5,m6⟩,us,be⟩:=u
 simp only[Sg.cs]at mkl mkm kB lB of1 of2 of3 hre hsa
 simp -implicitDefEqProofs only[↓reduceIte,go_sem,Nat.reduceAdd,Nat.reduceLT,Nat.reduceEqDiff,Nat.reduceBEq,reduceCtorEq,eq_self,hg]
 refine ae.ok (mkl _) ?_
 simp -implicitDefEqProofs only[↓reduceIte,go_sem,aq,Nat.reduceAdd,Nat.reduceLT,Nat.reduceEqDiff,Nat.reduceBEq,eq_self]
 refine ae.ok (mkm _) ?_
 simp -implicitDefEqProofs only[↓reduceIte,go_sem,ai,aq,Nat.reduceAdd,Nat.reduceLT,Nat.reduceEqDiff,Nat.reduceBEq,reduceCtorEq,eq_self]
 refine ae.ok (kB _) ?_
 have hb0:((B.length:Int)=0)=False:=eq_false (by omega)
 have hE:=Hi H
 have hmod:(c:Int).tmod (B.length:Int)=(d:Int):=by rw[hd];exact(Int.ofNat_tmod c B.length).symm
 have htk:List.take d (aL B)=aL (B.take d):=by unfold aL;rw[List.map_take]
 simp -implicitDefEqProofs only[↓reduceIte,go_sem,Nat.reduceAdd,Nat.reduceLT,Nat.reduceEqDiff,Nat.reduceBEq,Int.reduceLE,Int.reduceToNat,eq_self,au,hb0,wc,hmod,aS,htk]
 refine⟨by omega,?_⟩
 refine ae.ok (of1 _) ?_
 simp -implicitDefEqProofs only[↓reduceIte,go_sem,aq,Nat.reduceAdd,Nat.reduceLT,Nat.reduceEqDiff,Nat.reduceBEq,eq_self]
 refine⟨_,_,az.more _ _ 30 12 (by decide),?_⟩
 simp -implicitDefEqProofs only[go_sem]
 refine nz [some false,some false,some true,none,some true,some true,some true,some false,some false,some false,some false,some true,some true,some false,some false] 11 (H.length+3) (.box 30 12 1 1 [iA 0,iA 0,iA 0,iA 0,iA 0,iA 0,sA ⟨#[]⟩,iA 0,iA 0,sA ⟨#[]⟩,.d (.v (.slice none 0 0)),.d (.v (.slice none 0 0))]) (H++[.box 30 12 0 1 [iA sk,iA sw,iA zr,iA zn,iA mn.kind,iA mn.i,sA mn.s,iA mx.kind,iA mx.i,sA mx.s,.d (.list false (bZ ns)),.d (.list false (aL bd))],.box 30 12 0 1 [iA tk,iA tw,iA yr,iA yn,iA m3.kind,iA m3.i,sA m3.s,iA m4.kind,iA m4.i,sA m4.s,.d (.list false (bZ ms)),.d (.list false (aL bc))]]) K.mixed (by kernel_rfl) (by kernel_rfl) (by kernel_rfl) ?_ ?_ ?_
 ·exact Bo _ [_,_] [_,_]
 ·intro o ho
  simp at ho
 have hone:∀M:List Nat,∀c∈aL M,c.length=1:=fun M c hc=>by obtain⟨n,_,rfl⟩:=List.mem_map.1 hc;rfl
 have hap:aL B++aL C=aL (B++C):=by rw[et]
 have hal:B.length+C.length=(B++C).length:=by rw[List.length_append]
 simp -implicitDefEqProofs only[↓reduceIte,go_sem,ai,Nat.reduceAdd,Nat.reduceLT,Nat.reduceEqDiff,reduceCtorEq,eq_self,au]
 refine⟨hone _,by omega,by omega,hone _,by omega,by omega,Bo _ [_,_] [_,_,_],?_⟩
 refine ae.ok (lB _) ?_
 simp -implicitDefEqProofs only[↓reduceIte,go_sem,Nat.reduceAdd,Nat.reduceLT,eq_self]
 refine ae.ok (lB _) ?_
 simp -implicitDefEqProofs only[↓reduceIte,go_sem,Nat.reduceAdd,Nat.reduceLT,Nat.reduceEqDiff,eq_self,au]
 refine⟨Bo _ [_,_] [_,_,_],hone _,by omega,by omega,hone _,by omega,by omega,Bo _ [_,_] [_,_,_],?_⟩
 rw[hap,hal]
 refine ae.oR [] (e:=5) (k:=1) (ver:=2) (es:=aL (B++C)) (by simp) (by rw[List.drop_zero,List.take_of_length_le (by rw[au];exact Nat.le_refl _)];exact of2 _) ?_
 simp -implicitDefEqProofs only[↓reduceIte,go_sem,Nat.reduceAdd,Nat.reduceLT,eq_self]
 rw[hal]
 refine ae.oR [] (e:=5) (k:=1) (ver:=2) (es:=aL (B++C)) (by simp) (by rw[List.drop_zero,List.take_of_length_le (by rw[au];exact Nat.le_refl _)];exact of2 _) ?_
 simp -implicitDefEqProofs only[↓reduceIte,go_sem,aq,Nat.reduceAdd,Nat.reduceLT,Nat.reduceEqDiff,Nat.reduceBEq,eq_self]
 have hti:TI Tryz.prog 30=some ((.agg #[.int .i64 0,.int .i64 0,.int .i64 0,.int .i64 0,.int .i64 0,.int .i64 0,.string ⟨#[]⟩,.int .i64 0,.int .i64 0,.string ⟨#[]⟩,.slice none 0 0,.slice none 0 0]:Value),12,144):=by kernel_rfl
 refine⟨Bo _ [_,_] [_,_,_],⟨_,_,_,_,30,rfl,rfl,hti,⟨by decide,by kernel_rfl,by kernel_rfl⟩,rfl,rfl,by simp -implicitDefEqProofs only[go_sem,eq_self]⟩,Bo _ [_,_] [_,_,_],?_⟩
 refine ae.ok (of3 _) ?_
 simp -implicitDefEqProofs only[↓reduceIte,go_sem,aq,Nat.reduceAdd,Nat.reduceLT,Nat.reduceEqDiff,Nat.reduceBEq,eq_self]
 refine bQ K.mixed (by kernel_rfl) ?_
 simp -implicitDefEqProofs only[↓reduceIte,go_sem,ai,Nat.reduceAdd,Nat.reduceLT,Nat.reduceEqDiff,eq_self]
 refine ae.ok (hre _) ?_
 simp -implicitDefEqProofs only[↓reduceIte,go_sem,ai,Nat.reduceAdd,Nat.reduceLT,Nat.reduceEqDiff,eq_self]
 refine ae.ok (hre _) ?_
 simp -implicitDefEqProofs only[↓reduceIte,go_sem,Nat.reduceLT,Nat.reduceEqDiff,eq_self]
 refine ae.ok (hsa _) ?_
 simp -implicitDefEqProofs only[↓reduceIte,go_sem,Nat.reduceAdd,Nat.reduceLT,Nat.reduceEqDiff,Nat.reduceBEq,eq_self,au,List.length_nil]
 refine aC.ret ?_
 simp -implicitDefEqProofs only[↓reduceIte,go_sem,Nat.reduceLT,eq_self]
theorem Fz{x:AV}(h:jN Tryz.prog 43 x):∃n:Nat,x= .d (.v (.int .u16 n))∧n≤65535:=by
 obtain⟨d,rfl,hf⟩:=tp h K.Gi (sh:= .int .u16) (by kernel_rfl)
 obtain⟨n,rfl,hn⟩:=Fits.zL hf
 have hn:IntKind.u16.min≤n∧n≤IntKind.u16.max:=by simpa[Lit.wf]using hn
 have h0:IntKind.u16.min=0:=by decide
 have h1:IntKind.u16.max=65535:=by decide
 obtain⟨m,rfl⟩:=Int.eq_ofNat_of_zero_le (show 0≤n by omega)
 exact⟨m,rfl,by omega⟩
theorem segCuts_does(x0:AV)(h0:jN Tryz.prog 42 x0)(x1:AV)(h1:jN Tryz.prog 42 x1)(x2:AV)(h2:jN Tryz.prog 3 x2)(x3:AV)(h3:jN Tryz.prog 43 x3):ah Tryz.prog 6 [x0,x1,x2,x3] [] (.ok (.d (.v (.bool true)))) []:=by
 obtain⟨l,rfl,hl,hls⟩:=w9 h0
 obtain⟨m,rfl,hm,hms⟩:=w9 h1
 obtain⟨k,rfl,hk⟩:=EV h2
 obtain⟨c,rfl,hc⟩:=Fz h3
 exact tY l m k c hc hl hls hm hms []
end Go.Proofs.YtmbagpfmfiegkaaGreat
