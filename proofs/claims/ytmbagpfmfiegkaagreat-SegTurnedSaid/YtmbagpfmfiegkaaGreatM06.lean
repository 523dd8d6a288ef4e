/- seg.numbers: what it does. crc.Table, Sum, four: what they do. crc.Block, Open: what they do. seg.Bytes: what it does. Sizes and bytes of dict's bytes (plain). What a segment that is made holds, in plain terms. What a codec lays down it reads (plain). seg.head: what it does. (*seg.Seg).zone: what it does. crc.Open: what it does. seg.Of: the walk. seg.Of: what it does. A made segment is read as it was (plain). The codec that is chosen has the fewest bytes (plain). Bursts of bits and the check sum (plain). Segments' bytes turned, or cut (plain). The statements' few and shown (layer 11): what they do. Borrowing: a callee that only reads may be given owned arrays; they stay owned. The law SegTurned: what it does. -/
import Derived.Test.YtmbagpfmfiegkaaGreatM05
set_option maxHeartbeats 8000000
set_option maxRecDepth 100000
set_option linter.all false
namespace Go.Proofs.YtmbagpfmfiegkaaGreat
open Go.Proofs.YtmbagpfmfiegkaaGreatAw Go.RowKit
def BT(l:List Nat):List (List D):=l.map fun(n:Nat)=>[D.v (.int .i64 (n:Int))]
def eR(l:List Nat):List Nat:=l.flatMap a9
theorem qg(l:List Nat)(n:Nat):eR (l++[n])=eR l++a9 n:=by simp[eR]
theorem oJ(l:List Nat)(nn:Bool)(hl:l.length≤1000)(hn:∀n∈l,n<9223372036854775808)(H:aa):ag Tryz.prog 33 [.d (.list nn (BT l))] H (.ok (.sl H.length l.length 0 (eR l).length)) (H++[.arr 5 1 l.length (aG (eR l))]):=by
 have hWb:∀k,k≤l.length→(eR (l.take k)).length≤k* 11:=by
  intro k
  induction k with
  |zero=>intro _;simp[eR]
  |succ k ih=>
   intro hk
   have hk':k<l.length:=by omega
   rw[List.take_succ_eq_append_getElem hk',qg,List.length_append]
   have h1:=ih (by omega)
   have h2:=bn 10 l[k] (by have:=hn _ (List.getElem_mem hk');omega)
   omega
 refine ag.aj (hint:=(fun _=>false)) Tryz.func33 (by kernel_rfl) rfl [2] (by kernel_rfl) (by decide) (by simp[Tryz.ntmps33]) ?_
 rw[Tryz.ntmps33]
 simp -implicitDefEqProofs only[↓reduceIte,go_sem,Nat.reduceLT,reduceCtorEq,eq_self]
 refine bl (fun j s H'=>H'=H++[.arr 5 1 j (aG (eR (l.take j)))]∧s 3= .sl H.length j 0 (eR (l.take j)).length∧s 6= .d (.list nn (BT l))∧s 7=iA l.length∧s 8=iA j) l.length (by omega) (ar.eU _ _ 3 5 1 (by decide) (by simp -implicitDefEqProofs only[↓reduceIte,go_sem,Nat.reduceLT,Nat.reduceEqDiff,eq_self]) _) ?_ ?_ ?_
 ·refine⟨rfl,?_⟩
  simp -implicitDefEqProofs only[↓reduceIte,go_sem,Nat.reduceLT,Nat.reduceEqDiff,eq_self,BT,List.length_map]
  rfl
 ·rintro j s H' hj hw ⟨rfl,t3,t6,t7,t8⟩
  have hx:(BT l)[j]?=some [.v (.int .i64 ((l[j]:Nat):Int))]:=by unfold BT;rw[List.getElem?_map,List.getElem?_eq_getElem hj];rfl
  have hm:=hn _ (List.getElem_mem hj)
  have hb:=hWb j (by omega)
  have e1:eR (l.take (j+1))=eR (l.take j)++a9 l[j]:=by rw[List.take_succ_eq_append_getElem hj,qg]
  rw[e1]
  generalize eR (l.take j)=B at*
  generalize l[j]=m at*
  have wm:=aU m (by omega)
  have hpl:=bn 10 m (by omega)
  simp -implicitDefEqProofs only[↓reduceIte,go_sem,Nat.reduceLT,Nat.reduceEqDiff,eq_self,t3,t6,t7,t8,hj,hx,wm]
  refine ab.ok (mI m (by omega) _) ?_
  simp -implicitDefEqProofs only[↓reduceIte,go_sem,Nat.reduceLT,Nat.reduceEqDiff,eq_self,aS,al,eB]
  refine⟨by omega,by omega,?_⟩
  simp -implicitDefEqProofs only[↓reduceIte,go_sem,Nat.reduceLT,eq_self,t8]
  refine eQ.same ⟨rfl,?_⟩
  simp -implicitDefEqProofs only[↓reduceIte,go_sem,Nat.reduceLT,Nat.reduceEqDiff,eq_self,t6,t7,hw]
 ·rintro s H' ⟨rfl,t3,t6,t7,t8⟩
  rw[show l.take l.length=l from List.take_length]at*
  simp -implicitDefEqProofs only[↓reduceIte,go_sem,Nat.reduceLT,Nat.reduceEqDiff,eq_self,t3,t7,t8]
  exact⟨_,ar.refl _ _,by simp -implicitDefEqProofs only[↓reduceIte,go_sem,Nat.reduceLT,eq_self]⟩
def hZ(w:Nat):Nat:=if w%2=1 then w/2^^^3988292384 else w/2
def ct(w:Nat):Nat→Nat
 |0=>w
 |k+1=>hZ (ct w k)
theorem C1{w:Nat}(h:w<4294967296):hZ w<4294967296:=by
 unfold hZ
 split
 ·exact Nat.xor_lt_two_pow (n:=32) (by omega) (by decide)
 ·omega
theorem kG{w:Nat}(h:w<4294967296):∀k,ct w k<4294967296
 |0=>h
 |k+1=>C1 (kG h k)
def jb(i:Nat):Nat:=ct i 8
def mh:List Nat:=(List.range 256).map jb
theorem gG:mh.length=256:=by simp[mh]
theorem vU{i:Nat}(h:i<256):mh[i]?=some (jb i):=by simp[mh,h]
abbrev wA(n:Nat):AV:= .d (.v (.int .u32 n))
def iL(i:Nat):List AV:=(mh.take i).map wA++List.replicate (256-i) (wA 0)
theorem p7{i:Nat}(h:i≤256):(iL i).length=256:=by simp[iL,gG];omega
theorem El{i:Nat}(h:i<256):(iL i).set i (wA (jb i))=iL (i+1):=by
 unfold iL
 have e1:mh.take (i+1)=mh.take i++[jb i]:=by
  rw[List.take_succ_eq_append_getElem (by rw[gG];exact h)]
  congr 2
  have:=vU h
  rw[List.getElem?_eq_getElem (by rw[gG];exact h)]at this
  exact Option.some.inj this
 have e2:256-i=(256-(i+1))+1:=by omega
 rw[e1,e2,List.replicate_succ,List.map_append,List.append_assoc,List.set_append_right _ _ (by simp[gG];omega)]
 simp[gG,Nat.min_eq_left (show i≤256 by omega)]
def qV(b:List Nat):Nat:=b.foldl (fun w c=>w/256^^^jb ((w%256)^^^c)) 4294967295
def cb(w:Nat):List Nat:=[w%256,w/256%256,w/65536%256,w/16777216%256]
theorem s6{i:Nat}(h:i<256):jb i<4294967296:=kG (by omega) 8
theorem oL(n:Nat)(h:n<4294967296):IntKind.u32.wrap (n:Int)=(n:Int):=by
 simp only[IntKind.wrap,IntKind.signed,IntKind.bits]
 simp
 omega
theorem zK(w k:Nat)(h:k≤32):iF .u32 (w:Int) (k:Int)=((w/2^k:Nat):Int):=by
 have:min k 32=k:=by omega
 simp only[iF,IntKind.bits,Int.toNat_natCast,this]
 rw[Int.fdiv_eq_ediv_of_nonneg _ (by exact_mod_cast Nat.zero_le _)]
 norm_cast
theorem Ge{w:Nat}(h:w<4294967296):IntKind.u32.wrap (so .u32 (w:Int) 1)=((w%2:Nat):Int):=by
 have:=mK .u32 w 1 (by simp only[IntKind.bits];omega) (by decide)
 rw[show((1:Nat):Int)=1 from rfl]at this
 rw[this,Nat.and_one_is_mod]
 exact oL _ (by omega)
theorem Gc{a b:Nat}(ha:a<4294967296)(hb:b<4294967296):IntKind.u32.wrap (oG .u32 (a:Int) (b:Int))=((a^^^b:Nat):Int):=by
 rw[mJ .u32 a b (by simp only[IntKind.bits];omega) (by simp only[IntKind.bits];omega)]
 exact oL _ (Nat.xor_lt_two_pow (n:=32) (by omega) (by omega))
theorem o5(H:aa):ag Tryz.prog 43 [] H (.ok (.agg (mh.map wA))) H:=by
 refine ag.bL (hint:=fun _=>false) Tryz.func43 (by kernel_rfl) rfl [.cell 0 86] (by kernel_rfl) (by simp[Tryz.ntmps43]) ?_
 rw[Tryz.ntmps43]
 have h0:List.map (fun c=>AV.d (D.v c)) (Array.replicate 256 (Value.int IntKind.u32 0)).toList=iL 0:=by simp[iL]
 have l0:=p7 (i:=0) (by omega)
 simp -implicitDefEqProofs only[go_sem,eq_self]
 rw[h0]
 refine bl (fun i s H'=>H'=H++[.box 86 256 0 1 (iL 0),.box 86 256 0 1 (iL i)]∧s 0= .ptr H.length 0 0 0∧s 1= .ptr (H.length+1) 0 0 0∧s 5=iA i) 256 (by omega) (ar.refl _ _) ?_ ?_ ?_
 ·refine⟨rfl,?_⟩
  simp -implicitDefEqProofs only[↓reduceIte,go_sem,Nat.reduceLT,Nat.reduceEqDiff,reduceCtorEq,eq_self]
 ·rintro i s H' hi hw ⟨rfl,t0,t1,t5⟩
  have wi:=oL i (by omega)
  have hrl:=kG (w:=i) (by omega)
  have hcl:=p7 (i:=i) (by omega)
  have hset:=El hi
  generalize iL (i+1)=C2 at*
  generalize iL i=C at*
  generalize iL 0=C0 at*
  simp -implicitDefEqProofs only[↓reduceIte,go_sem,Nat.reduceLT,Nat.reduceEqDiff,eq_self,t5,show((i:Int)<256)=True from eq_true (by omega),wi]
  refine bl (fun k s H'=>H'=H++[.box 86 256 0 1 C0,.box 86 256 0 1 C]∧s 0= .ptr H.length 0 0 0∧s 1= .ptr (H.length+1) 0 0 0∧s 2=iA i∧s 3=wA (ct i k)∧s 5=iA i∧s 10=iA k) 8 (by omega) (ar.refl _ _) ?_ ?_ ?_
  ·refine⟨rfl,?_⟩
   simp -implicitDefEqProofs only[↓reduceIte,go_sem,Nat.reduceLT,Nat.reduceEqDiff,reduceCtorEq,eq_self,t0,t1,t5]
   rfl
  ·rintro k s H1 hk hw2 ⟨rfl,t0,t1,t2,t3,t5,t10⟩
   have hl:=hrl k
   have e1:ct i (k+1)=hZ (ct i k):=rfl
   rw[e1]
   generalize ct i k=x at*
   have sh:=zK x 1 (by decide)
   rw[show((1:Nat):Int)=1 from rfl,show 2^1=2 from rfl]at sh
   have an:=Ge hl
   have xo:=Gc (a:=x/2) (b:=3988292384) (by omega) (by decide)
   rw[show((3988292384:Nat):Int)=3988292384 from rfl]at xo
   by_cases hb:x%2=1
   ·have e2:hZ x=x/2^^^3988292384:=if_pos hb
    rw[hb]at an
    rw[e2]
    generalize hy:((x/2:Nat):Int)=y at*
    simp -implicitDefEqProofs only[↓reduceIte,go_sem,Nat.reduceLT,Nat.reduceEqDiff,Int.reduceLE,eq_self,t3,t10,show((k:Int)<8)=True from eq_true (by omega),an,sh,xo]
    refine eQ.same ⟨rfl,?_⟩
    simp -implicitDefEqProofs only[↓reduceIte,go_sem,Nat.reduceLT,Nat.reduceEqDiff,reduceCtorEq,eq_self,t0,t1,t2,t5,hw2]
   ·have hb0:x%2=0:=by omega
    have e2:hZ x=x/2:=if_neg hb
    rw[hb0]at an
    rw[e2]
    generalize hy:((x/2:Nat):Int)=y at*
    simp -implicitDefEqProofs only[↓reduceIte,go_sem,Nat.reduceLT,Nat.reduceEqDiff,Int.reduceLE,Int.reduceEq,eq_self,t3,t10,show((k:Int)<8)=True from eq_true (by omega),an,sh]
    refine eQ.same ⟨rfl,?_⟩
    simp -implicitDefEqProofs only[↓reduceIte,go_sem,Nat.reduceLT,Nat.reduceEqDiff,reduceCtorEq,eq_self,t0,t1,t2,t5,hw2,←hy]
  ·rintro s H1 ⟨rfl,t0,t1,t2,t3,t5,t10⟩
   have e3:ct i 8=jb i:=rfl
   rw[e3]at t3
   have hset':List.take i C++AV.d (D.v (Value.int IntKind.u32 (jb i:Int)))::List.drop (i+1) C=C2:=by
    rw[←hset,List.set_eq_take_append_cons_drop,if_pos (by omega)]
   simp -implicitDefEqProofs only[↓reduceIte,go_sem,ak,Nat.reduceLT,Nat.reduceEqDiff,Int.reduceLT,eq_self,t1,t2,t3,t10,hcl,show((i:Int)<256)=True from eq_true (by omega),show i+1≤256 by omega,hset',t5]
   refine eQ.same ⟨rfl,?_⟩
   simp -implicitDefEqProofs only[↓reduceIte,go_sem,Nat.reduceLT,Nat.reduceEqDiff,reduceCtorEq,eq_self,t0,t1,hw]
 ·rintro s H' ⟨rfl,t0,t1,t5⟩
  have l6:=p7 (i:=256) (by omega)
  have e6:iL 256=mh.map wA:=by unfold iL;rw[List.take_of_length_le (by rw[gG];exact Nat.le_refl _)];simp
  have o6:(iL 256).all AV.one=true:=by
   rw[e6,List.all_eq_true]
   intro x hx
   obtain⟨n,_,rfl⟩:=List.mem_map.1 hx
   rfl
  have f6:∀(G:aa) (m:Nat),(iL 256).map (kq G m)=iL 256:=fun G m=>by rw[e6,List.map_map];rfl
  rw[←e6]
  have k6:List.take 256 (iL 256)=iL 256:=List.take_of_length_le (by omega)
  generalize iL 256=C at*
  generalize iL 0=C0 at*
  have d0:C0.drop 256=[]:=List.drop_eq_nil_of_le (by omega)
  simp -implicitDefEqProofs only[↓reduceIte,go_sem,ah,ak,Nat.reduceLT,Nat.reduceEqDiff,Int.reduceLT,reduceCtorEq,eq_self,t0,t1,t5,l6,k6,l0,o6,d0,List.take_zero,List.nil_append,List.append_nil]
  refine bp.ret ?_
  simp -implicitDefEqProofs only[↓reduceIte,go_sem,ah,Nat.reduceLeDiff,reduceCtorEq,eq_self,aK,bH,t0,l6,k6,f6]
theorem I7{c:Nat}(h:c<4294967296):IntKind.u32.wrap (Dy .u32 (c:Int))=((4294967295-c:Nat):Int):=by
 have e:Dy .u32 (c:Int)=((4294967295-c:Nat):Int):=by
  unfold Dy
  show(((BitVec.ofInt 32 4294967295^^^BitVec.ofInt 32 (c:Int)).toNat:Nat):Int)=_
  have h1:BitVec.ofInt 32 4294967295=BitVec.allOnes 32:=by decide
  rw[h1,BitVec.allOnes_xor,BitVec.toNat_not,BitVec.ofInt_natCast,BitVec.toNat_ofNat,Nat.mod_eq_of_lt h]
 rw[e]
 exact oL _ (by omega)
theorem tu(n:Nat):IntKind.u8.wrap (n:Int)=((n%256:Nat):Int):=by
 simp only[IntKind.wrap,IntKind.signed,IntKind.bits]
 simp
theorem wE(b:List Nat)(nn:Bool)(hb:∀c∈b,c<256)(hl:b.length≤140737488355328)(H:aa):ag Tryz.prog 42 [.agg (mh.map wA),.d (.list nn (aG b))] H (.ok (.d (.v (.int .u32 (4294967295-qV b:Nat))))) H:=by
 have tl:(mh.map wA).length=256:=by rw[List.length_map,gG]
 have tg:∀i,i<256→(mh.map wA)[i]?=some (wA (jb i)):=fun i hi=>by rw[List.getElem?_map,vU hi];rfl
 have ta:(mh.map wA).all AV.one=true:=by
  rw[List.all_eq_true]
  intro x hx
  obtain⟨n,_,rfl⟩:=List.mem_map.1 hx
  rfl
 generalize mh.map wA=C at*
 have hlt:∀k,(b.take k).foldl (fun w c=>w/256^^^jb ((w%256)^^^c)) 4294967295<4294967296:=by
  intro k
  induction k with
  |zero=>simp
  |succ k ih=>
   rcases Nat.lt_or_ge k b.length with hk|hk
   ·rw[List.take_succ_eq_append_getElem hk,List.foldl_append]
    simp only[List.foldl_cons,List.foldl_nil]
    have hc:=hb _ (List.getElem_mem hk)
    generalize List.foldl _ _ (b.take k)=w at*
    have h1:(w%256)^^^b[k]<256:=Nat.xor_lt_two_pow (n:=8) (by omega) (by omega)
    exact Nat.xor_lt_two_pow (n:=32) (by omega) (s6 h1)
   ·rw[List.take_of_length_le (by omega)]
    rw[List.take_of_length_le hk]at ih
    exact ih
 refine ag.aj (hint:=(fun _=>false)) Tryz.func42 (by kernel_rfl) rfl [4] (by kernel_rfl) (by decide) (by simp[Tryz.ntmps42]) ?_
 rw[Tryz.ntmps42]
 simp -implicitDefEqProofs only[↓reduceIte,go_sem,Nat.reduceLT,Nat.reduceEqDiff,eq_self,ta,tl]
 refine bl (fun k s H'=>H'=H++[.box 86 256 0 1 C]∧s 2= .ptr H.length 0 0 0∧s 5=wA ((b.take k).foldl (fun w c=>w/256^^^jb ((w%256)^^^c)) 4294967295)∧s 8= .d (.list nn (aG b))∧s 9=iA b.length∧s 10=iA k) b.length (by omega) (ar.refl _ _) ?_ ?_ ?_
 ·refine⟨rfl,?_⟩
  simp -implicitDefEqProofs only[↓reduceIte,go_sem,Nat.reduceLT,Nat.reduceEqDiff,eq_self,al]
  rfl
 ·rintro k s H' hk hw ⟨rfl,t2,t5,t8,t9,t10⟩
  have hx:(aG b)[k]?=some [.v (.int .u8 ((b[k]:Nat):Int))]:=by unfold aG;rw[List.getElem?_map,List.getElem?_eq_getElem hk];rfl
  have hc:=hb _ (List.getElem_mem hk)
  have hwl:=hlt k
  have e1:(b.take (k+1)).foldl (fun w c=>w/256^^^jb ((w%256)^^^c)) 4294967295=(fun w c=>w/256^^^jb ((w%256)^^^c)) ((b.take k).foldl (fun w c=>w/256^^^jb ((w%256)^^^c)) 4294967295) b[k]:=by rw[List.take_succ_eq_append_getElem hk,List.foldl_append];rfl
  rw[e1]
  generalize (b.take k).foldl (fun w c=>w/256^^^jb ((w%256)^^^c)) 4294967295=w at*
  generalize b[k]=c at*
  have sh:=zK w 8 (by decide)
  rw[show((8:Nat):Int)=8 from rfl,show 2^8=256 from rfl]at sh
  have w8:=tu w
  have x8:IntKind.u8.wrap (oG .u8 ((w%256:Nat):Int) (c:Int))=(((w%256)^^^c:Nat):Int):=by
   rw[mJ .u8 _ c (by simp only[IntKind.bits];omega) (by simp only[IntKind.bits];omega),tu,Nat.mod_eq_of_lt (Nat.xor_lt_two_pow (n:=8) (by omega) (by omega))]
  have hj:(w%256)^^^c<256:=Nat.xor_lt_two_pow (n:=8) (by omega) (by omega)
  have hg:=tg _ hj
  have hr:=s6 hj
  have hgt:List.take 1 (List.drop ((w%256)^^^c) C)=[wA (jb ((w%256)^^^c))]:=by
   obtain⟨h1,h2⟩:=List.getElem?_eq_some_iff.1 hg
   rw[List.drop_eq_getElem_cons h1,h2];rfl
  have hx32:=Gc (a:=w/256) (b:=jb ((w%256)^^^c)) (by omega) hr
  generalize hjj:(w%256)^^^c=j at*
  generalize ((w%256:Nat):Int)=y at*
  generalize ((w/256:Nat):Int)=z at*
  simp -implicitDefEqProofs only[↓reduceIte,go_sem,ah,Nat.reduceLT,Nat.reduceLeDiff,Nat.reduceEqDiff,Int.reduceLE,eq_self,t2,t5,t8,t9,t10,hk,hx,sh,w8,x8,tl,show((j:Int)<256)=True from eq_true (by omega),show j≤255 by omega,hgt,hx32]
  refine eQ.same ⟨rfl,?_⟩
  simp -implicitDefEqProofs only[↓reduceIte,go_sem,Nat.reduceLT,Nat.reduceEqDiff,eq_self,t2,t8,t9,hw,hjj]
 ·rintro s H' ⟨rfl,t2,t5,t8,t9,t10⟩
  have hn:=I7 (hlt b.length)
  have hs:(b.take b.length).foldl (fun w c=>w/256^^^jb ((w%256)^^^c)) 4294967295=qV b:=by rw[List.take_length];rfl
  rw[hs]at hn t5
  simp -implicitDefEqProofs only[↓reduceIte,go_sem,Nat.reduceLT,Nat.reduceEqDiff,eq_self,t5,t9,t10,hn]
  refine aw.ret ?_
  simp -implicitDefEqProofs only[↓reduceIte,go_sem,Nat.reduceLT,eq_self]
def b8(n:Nat):AV:= .d (.v (.int .u8 n))
def dM(w i:Nat):List AV:=((cb w).take i).map b8++List.replicate (4-i) (b8 0)
theorem nt(w:Nat){i:Nat}(h:i≤4):(dM w i).length=4:=by simp[dM,cb];omega
theorem Bm(w:Nat):∀{i:Nat},i<4→(dM w i).take i++b8 (w/2^(8* i)%256)::(dM w i).drop (i+1)=dM w (i+1)
 |0,_=>by simp[dM,cb,List.replicate]
 |1,_=>by simp[dM,cb,List.replicate]
 |2,_=>by simp[dM,cb,List.replicate]
 |3,_=>by simp[dM,cb]
 |n+4,h=>by omega
theorem ri(w:Nat)(hw:w<4294967296)(H:aa):ag Tryz.prog 41 [.d (.v (.int .u32 w))] H (.ok (.agg ((cb w).map b8))) H:=by
 refine ag.bL (hint:=fun _=>false) Tryz.func41 (by kernel_rfl) rfl [.cell 2 83] (by kernel_rfl) (by simp[Tryz.ntmps41]) ?_
 rw[Tryz.ntmps41]
 have h0:[AV.d (D.v (.int .u8 0)),.d (.v (.int .u8 0)),.d (.v (.int .u8 0)),.d (.v (.int .u8 0))]=dM w 0:=rfl
 simp -implicitDefEqProofs only[go_sem,eq_self]
 refine bl (fun i s H'=>H'=H++[.box 83 4 0 1 (dM w 0),.box 83 4 0 1 (dM w i)]∧s 0= .d (.v (.int .u32 w))∧s 2= .ptr H.length 0 0 0∧s 3= .ptr (H.length+1) 0 0 0∧s 5=iA i) 4 (by omega) (ar.refl _ _) ?_ ?_ ?_
 ·refine⟨rfl,?_⟩
  simp -implicitDefEqProofs only[↓reduceIte,go_sem,Nat.reduceLT,Nat.reduceEqDiff,reduceCtorEq,eq_self]
 ·rintro i s H' hi hw' ⟨rfl,t0,t2,t3,t5⟩
  have hl:=nt w (i:=i) (by omega)
  have hset:=Bm w hi
  have m1:IntKind.i64.wrap (8* (i:Int))=((8* i:Nat):Int):=by rw[wrap64_in _ (by omega) (by omega)];omega
  have m2:IntKind.u64.wrap ((8* i:Nat):Int)=((8* i:Nat):Int):=aU _ (by omega)
  have sh:=zK w (8* i) (by omega)
  have w8:=tu (w/2^(8* i))
  unfold b8 at hset
  generalize ((w/2^(8* i)%256:Nat):Int)=y at*
  generalize ((w/2^(8* i):Nat):Int)=z at*
  have q0:((0:Int)≤((8* i:Nat):Int))=True:=eq_true (by omega)
  generalize ((8* i:Nat):Int)=q at*
  generalize dM w (i+1)=C2 at*
  generalize dM w i=C at*
  generalize dM w 0=C0 at*
  simp -implicitDefEqProofs only[↓reduceIte,go_sem,ak,Nat.reduceLT,Nat.reduceEqDiff,reduceCtorEq,eq_self,t0,t3,t5,m1,m2,sh,w8,q0,hl,show((i:Int)<4)=True from eq_true (by omega),show i+1≤4 by omega,hset]
  refine eQ.same ⟨rfl,?_⟩
  simp -implicitDefEqProofs only[↓reduceIte,go_sem,Nat.reduceLT,Nat.reduceEqDiff,reduceCtorEq,eq_self,t0,t2,t3,hw']
 ·rintro s H' ⟨rfl,t0,t2,t3,t5⟩
  have e4:dM w 4=(cb w).map b8:=by simp[dM,cb]
  have l4:=nt w (i:=4) (by omega)
  have l0:=nt w (i:=0) (by omega)
  have f4:∀(G:aa) (m:Nat),(dM w 4).map (kq G m)=dM w 4:=fun G m=>by rw[e4,List.map_map];rfl
  have o4:(dM w 4).all AV.one=true:=by rw[e4];rfl
  have k4:List.take 4 (dM w 4)=dM w 4:=List.take_of_length_le (by omega)
  rw[←e4]
  generalize dM w 4=C at*
  generalize dM w 0=C0 at*
  have d0:C0.drop 4=[]:=List.drop_eq_nil_of_le (by omega)
  simp -implicitDefEqProofs only[↓reduceIte,go_sem,ah,ak,Nat.reduceLT,Nat.reduceEqDiff,Int.reduceLT,eq_self,t2,t3,t5,l4,l0,o4,k4,d0,List.take_zero,List.nil_append,List.append_nil]
  refine bp.ret ?_
  simp -implicitDefEqProofs only[↓reduceIte,go_sem,ah,Nat.reduceLeDiff,Nat.reduceEqDiff,eq_self,aK,bH,t2,l4,k4,f4]
def oe(w:Nat):List D:=(cb w).map fun(n:Nat)=> .v (.int .u8 (n:Int))
theorem Eu(w:Nat):(cb w).map b8=(oe w).map AV.d:=by simp[oe,b8]
theorem BY(w:Nat):(oe w).map (fun d=>[d])=aG (cb w):=by simp[oe,aG]
def eO(b:List Nat):Nat:=4294967295-qV b
theorem tH(b:List Nat):eO b<4294967296:=by unfold eO;omega
def dj(b:List Nat):List Nat:=a9 b.length++b++cb (eO b)
theorem mv(w:Nat):∀c∈cb w,c<256:=by
 intro c hc
 simp only[cb,List.mem_cons,List.not_mem_nil,or_false]at hc
 omega
theorem rJ(b:List Nat)(nn:Bool)(hb:∀c∈b,c<256)(hl:b.length≤1000000000)(H:aa):ag Tryz.prog 22 [.d (.list nn (aG b))] H (.ok (.sl (H.length+1) ((a9 b.length).length+2) 0 (dj b).length)) (H++[.arr 83 4 1 [],.arr 5 1 ((a9 b.length).length+2) (aG (dj b))]):=by
 have hs:=fun H=>wE b nn hb (by omega) H
 have hc:=tH b
 have hf:=fun H=>ri (eO b) hc H
 rw[Eu]at hf
 have hl4:(oe (eO b)).length=4:=rfl
 have ho4:((oe (eO b)).map AV.d).all AV.one=true:=by simp[AV.one]
 have hb4:=BY (eO b)
 have hl4':((oe (eO b)).map AV.d).length=4:=by rw[List.length_map];exact hl4
 have hbl:(aG (cb (eO b))).length=4:=by rw[al];rfl
 unfold dj
 unfold eO at*
 generalize oe (4294967295-qV b)=F at*
 generalize cb (4294967295-qV b)=W at*
 have hpo:=fun H=>fN b.length (by omega) H
 have hpl:(a9 b.length).length≤11:=by
  have:=bn 10 b.length (by omega)
  omega
 have hwl:W.length=4:=by rw[←al];exact hbl
 generalize a9 b.length=p at*
 have wl:IntKind.u64.wrap (b.length:Int)=(b.length:Int):=aU _ (by omega)
 have hex:∀o:aA,Ext (H++[.arr 83 4 1 []]) (H++[.arr 83 4 1 [],o]):=fun o=>by
  have:=Ext.app (H++[.arr 83 4 1 []]) [o]
  rwa[List.append_assoc]at this
 refine ag.aj (hint:=(fun t=>t==1000002)) Tryz.func22 (by kernel_rfl) rfl [2] (by kernel_rfl) (by decide) (by simp[Tryz.ntmps22]) ?_
 rw[Tryz.ntmps22]
 simp -implicitDefEqProofs only[go_sem,Nat.reduceAdd,Nat.reduceBEq]
 refine ab.ok (o5 _) ?_
 simp -implicitDefEqProofs only[↓reduceIte,go_sem,Nat.reduceLT,Nat.reduceEqDiff,reduceCtorEq,eq_self]
 refine ab.ok (hs _) ?_
 simp -implicitDefEqProofs only[↓reduceIte,go_sem,Nat.reduceLT,eq_self]
 refine ab.ok (hf _) ?_
 generalize hFm:F.map AV.d=C at*
 have k4:List.take 4 C=C:=List.take_of_length_le (by omega)
 simp -implicitDefEqProofs only[↓reduceIte,go_sem,ak,Nat.reduceAdd,Nat.reduceLT,Nat.reduceEqDiff,Nat.reduceBEq,eq_self,hl4',ho4,List.append_nil]
 refine⟨_,_,ar.Dj _ _ 3 H.length 83 4 0 1 F (by simp -implicitDefEqProofs only[go_sem,eq_self,hFm]) (by simp -implicitDefEqProofs only[↓reduceIte,go_sem,Nat.reduceLT,eq_self]),?_⟩
 simp -implicitDefEqProofs only[go_sem]
 refine dr [some false,some false,some false,some true,some false,some true,none,some true] 3 (H++[.arr 83 4 1 []]) K.mixed (by kernel_rfl) (by kernel_rfl) (by kernel_rfl) (Ext.refl _) ?_
 simp -implicitDefEqProofs only[↓reduceIte,go_sem,Nat.reduceLT,reduceCtorEq,eq_self,al,wl]
 refine ab.ok (hpo _) ?_
 simp -implicitDefEqProofs only[↓reduceIte,go_sem,Nat.reduceLT,Nat.reduceLeDiff,Nat.reduceEqDiff,reduceCtorEq,eq_self,aS,al,eB,hl4,hb4,hwl]
 refine⟨hex _,by omega,by omega,hex _,by omega,by omega,hex _,?_⟩
 exact⟨_,ar.refl _ _,by simp -implicitDefEqProofs only[↓reduceIte,go_sem,Nat.reduceAdd,Nat.reduceLT,eq_self,Nat.add_assoc]⟩
theorem xB(b:List Nat)(nn:Bool)(hb:∀c∈b,c<256)(hl:b.length≤1000000000)(H:aa):ag Tryz.prog 22 [.d (.list nn (aG b))] H (.ok (.d (.list false (aG (dj b))))) H:=by
 have h:=(rJ b nn hb hl H).drop
 have hg:(H++[aA.arr 83 4 1 [],.arr 5 1 ((a9 b.length).length+2) (aG (dj b))])[H.length+1]?=some (.arr 5 1 ((a9 b.length).length+2) (aG (dj b))):=by simp
 rw[ud,oO,if_neg (by omega),hg]at h
 simp only[if_true,List.drop_zero]at h
 rwa[dD _ _ (al _)]at h
def cL(k c:Nat)(s:Sg):List Nat:=eR [k,c,s.aM.rows,s.aM.az]++bW s.az++cS s.aM.mn++cS s.aM.mx++s.body
def iG(k c:Nat)(s:Sg):List Nat:=dj (cL k c s)
theorem qx(s:Sg)(k c:Nat)(hk:s.kind=(k:Int))(hc:s.aX=(c:Int))(hk2:k≤1000000)(hc2:c≤1000000)(hr:s.aM.rows≤1000000000)(hn:s.aM.az≤1000000000)(hnl:s.az.length≤1000000)(hbl:s.body.length≤900000000)
  (hi:(dF s.aM.mn.i∧cT s.aM.mn=true)∧dF s.aM.mx.i∧cT s.aM.mx=true) (hb:∀x∈s.body,x<256) (hb2:∀x∈cL k c s,x<256) (H:aa):
  ag Tryz.prog 15 [.agg s.cs] H (.ok (.sl (H.length+3) ((a9 (cL k c s).length).length+2) 0 (iG k c s).length)) (H++[.box 30 12 0 1 s.cs,.arr 5 1 9 [],.arr 83 4 1 [],.arr 5 1 ((a9 (cL k c s).length).length+2) (aG (iG k c s))]):=by
 have hv1:=fun H=>ey s.aM.mn hi.1.1 hi.1.2 H
 have hv2:=fun H=>ey s.aM.mx hi.2.1 hi.2.2 H
 have hnb:=fun H=>uj s.az false hnl H
 have hnu:=fun H=>oJ [k,c,s.aM.rows,s.aM.az] true (by simp) (fun n hn'=>by simp only[List.mem_cons,List.not_mem_nil,or_false]at hn';omega) H
 have hnl2:(eR [k,c,s.aM.rows,s.aM.az]).length≤44:=by
  have h1:=bn 10 k (by omega)
  have h2:=bn 10 c (by omega)
  have h3:=bn 10 s.aM.rows (by omega)
  have h4:=bn 10 s.aM.az (by omega)
  simp only[eR,List.flatMap_cons,List.flatMap_nil,List.length_append,List.length_nil]
  omega
 have hpl:(bW s.az).length≤1000000:=by rw[cx];omega
 have hll1:=dx hi.1.1 hi.1.2
 have hll2:=dx hi.2.1 hi.2.2
 have hbk:∀o1 o2,ag Tryz.prog 22 [.d (.list false (aG (cL k c s)))] (H++[o1,o2]) (.ok (.sl (H.length+3) ((a9 (cL k c s).length).length+2) 0 (dj (cL k c s)).length)) (H++[o1,o2,.arr 83 4 1 [],.arr 5 1 ((a9 (cL k c s).length).length+2) (aG (dj (cL k c s)))]):=fun o1 o2=>by
  have:=rJ (cL k c s) false hb2 (by unfold cL;simp only[List.length_append];omega) (H++[o1,o2])
  rwa[List.append_assoc,List.length_append]at this
 unfold iG
 have hcs:s.cs=[iA k,iA c,iA s.aM.rows,iA s.aM.az,iA s.aM.mn.kind,iA s.aM.mn.i,sA s.aM.mn.s,iA s.aM.mx.kind,iA s.aM.mx.i,sA s.aM.mx.s,.d (.list false (cr s.az)),.d (.list false (aG s.body))]:=by unfold Sg.cs;rw[hk,hc]
 rw[hcs]
 unfold cL at*
 have hnr:BT [k,c,s.aM.rows,s.aM.az]=[[D.v (.int .i64 (k:Int))],[.v (.int .i64 (c:Int))],[.v (.int .i64 (s.aM.rows:Int))],[.v (.int .i64 (s.aM.az:Int))]]:=rfl
 rw[hnr]at hnu
 generalize eR [k,c,s.aM.rows,s.aM.az]=N at*
 generalize bW s.az=PB at*
 generalize cS s.aM.mn=V1 at*
 generalize cS s.aM.mx=V2 at*
 generalize s.body=BD at*
 generalize s.az=NL at*
 generalize s.aM.mn=mn at*
 generalize s.aM.mx=mx at*
 generalize s.aM.rows=rw at*
 generalize s.aM.az=nu at*
 clear hcs hk hc
 have hE:∀o:aA,Ext (H++[.box 30 12 0 1 [iA k,iA c,iA rw,iA nu,iA mn.kind,iA mn.i,sA mn.s,iA mx.kind,iA mx.i,sA mx.s,.d (.list false (cr NL)),.d (.list false (aG BD))]]) (H++[.box 30 12 0 1 [iA k,iA c,iA rw,iA nu,iA mn.kind,iA mn.i,sA mn.s,iA mx.kind,iA mx.i,sA mx.s,.d (.list false (cr NL)),.d (.list false (aG BD))],o])=True:=fun o=>eq_true (Ext.fg H ⟨fun _=>rfl,trivial⟩)
 obtain⟨x,hx⟩:∃x,x=N++PB++V1++V2++BD:=⟨_,rfl⟩
 rw[←hx]at hbk⊢
 have hE3:∀T:aa,Ext (H++[.box 30 12 0 1 [iA k,iA c,iA rw,iA nu,iA mn.kind,iA mn.i,sA mn.s,iA mx.kind,iA mx.i,sA mx.s,.d (.list false (cr NL)),.d (.list false (aG BD))]]) (H++ .box 30 12 0 1 [iA k,iA c,iA rw,iA nu,iA mn.kind,iA mn.i,sA mn.s,iA mx.kind,iA mx.i,sA mx.s,.d (.list false (cr NL)),.d (.list false (aG BD))]::T)=True:=fun T=>eq_true (by have:=Ext.app (H++[.box 30 12 0 1 [iA k,iA c,iA rw,iA nu,iA mn.kind,iA mn.i,sA mn.s,iA mx.kind,iA mx.i,sA mx.s,.d (.list false (cr NL)),.d (.list false (aG BD))]]) T;rwa[List.append_assoc]at this)
 have hsetb:∀o1 o2 o3:aA,(H++[o1,o2]).set (H.length+1) o3=H++[o1,o3]:=fun o1 o2 o3=>by simp[]
 refine ag.aj (hint:=(fun _=>false)) Tryz.func15 (by kernel_rfl) rfl [2] (by kernel_rfl) (by decide) (by simp[Tryz.ntmps15]) ?_
 rw[Tryz.ntmps15]
 simp -implicitDefEqProofs only[↓reduceIte,go_sem,ah,Nat.reduceAdd,Nat.reduceLT,Nat.reduceLeDiff,Nat.reduceEqDiff,eq_self]
 refine ab.ok (hnu _) ?_
 simp -implicitDefEqProofs only[↓reduceIte,go_sem,ah,Nat.reduceAdd,Nat.reduceLT,Nat.reduceLeDiff,Nat.reduceEqDiff,eq_self]
 refine ab.ok (hv1 _) ?_
 simp -implicitDefEqProofs only[↓reduceIte,go_sem,ah,Nat.reduceAdd,Nat.reduceLT,Nat.reduceLeDiff,Nat.reduceEqDiff,eq_self]
 refine ab.ok (hv2 _) ?_
 simp -implicitDefEqProofs only[↓reduceIte,go_sem,ah,Nat.reduceAdd,Nat.reduceLT,Nat.reduceLeDiff,Nat.reduceEqDiff,eq_self]
 refine ab.ok (hnb _) ?_
 simp -implicitDefEqProofs only[↓reduceIte,go_sem,Nat.reduceAdd,Nat.reduceLT,Nat.reduceEqDiff,eq_self,aS,al,eB,List.length_cons,List.length_nil]
 refine⟨by omega,by omega,?_⟩
 refine dr [some false,some false,some true,some false,some true,none,none,some true,some true] 2 (H++[.box 30 12 0 1 [iA k,iA c,iA rw,iA nu,iA mn.kind,iA mn.i,sA mn.s,iA mx.kind,iA mx.i,sA mx.s,.d (.list false (cr NL)),.d (.list false (aG BD))]]) K.mixed (by kernel_rfl) (by kernel_rfl) (by kernel_rfl) (of_eq_true (hE _)) ?_
 simp -implicitDefEqProofs only[↓reduceIte,go_sem,ah,Nat.reduceAdd,Nat.reduceLT,Nat.reduceEqDiff,eq_self,aS,al,eB,hE]
 refine⟨by omega,by omega,by omega,by omega,by omega,by omega,by omega,by omega,?_⟩
 refine ab.p6 [] (e:=5) (k:=1) (ver:=8) (es:=aG (N++PB++V1++V2++BD)) (by simp) (by rw[List.drop_zero,List.take_of_length_le (by rw[al];simp only[List.length_append];omega),hsetb,←hx];exact hbk _ _) ?_
 simp -implicitDefEqProofs only[↓reduceIte,go_sem,Nat.reduceAdd,Nat.reduceLT,eq_self,hE3]
 exact⟨_,ar.refl _ _,by simp -implicitDefEqProofs only[↓reduceIte,go_sem,Nat.reduceLT,eq_self]⟩
theorem vN(s:Sg)(k c:Nat)(hk:s.kind=(k:Int))(hc:s.aX=(c:Int))(hk2:k≤1000000)(hc2:c≤1000000)(hr:s.aM.rows≤1000000000)(hn:s.aM.az≤1000000000)(hnl:s.az.length≤1000000)(hbl:s.body.length≤900000000)
  (hi:(dF s.aM.mn.i∧cT s.aM.mn=true)∧dF s.aM.mx.i∧cT s.aM.mx=true) (hb:∀x∈s.body,x<256) (hb2:∀x∈cL k c s,x<256) (H:aa):
  ag Tryz.prog 15 [.agg s.cs] H (.ok (.d (.list false (aG (iG k c s))))) H:=by
 have h:=(qx s k c hk hc hk2 hc2 hr hn hnl hbl hi hb hb2 H).drop
 rw[ud,oO,if_neg (by omega),show ∀a b c d:aA,(H++[a,b,c,d])[H.length+3]?=some d from fun a b c d=>by simp]at h
 simp only[if_true,List.drop_zero]at h
 rwa[dD _ _ (al _)]at h
theorem jh{v:ai}(hi:dF v.i)(hm:cT v=true):b6 (cS v):=by
 unfold cS
 split
 ·exact cV (gd hi.1 hi.2)
 ·split
  ·exact vW _
  ·split
   ·rename_i h3
    have hs:=po hm h3
    intro c hc
    unfold lk at hc
    rcases List.mem_append.1 hc with h|h
    ·exact cV (n:=v.s.size) (by omega) c h
    ·exact ui _ c h
   ·intro c hc;simp at hc
theorem yU{l:List ai}{k:Int}(h:aL l k=0)(hok:∀v∈l,dF v.i):b6 (fa l):=by
 have hmay:=eF h
 have h4:=dX h
 have hwl:=kI l
 intro c hc
 unfold fa at hc
 rcases List.mem_append.1 hc with hc|hc
 ·rcases List.mem_append.1 hc with hc|hc
  ·exact cV (n:=(aQ aO l).length) (by omega) c hc
  ·obtain⟨v,hv,hc⟩:=List.mem_flatMap.1 hc
   have hv':=ej bg hv
   exact jh (hok v hv') (hmay v hv') c hc
 ·obtain⟨i,_,rfl⟩:=List.mem_map.1 hc
  exact kM _ _
theorem jG:∀(W:List ai),(∀v∈W,dF v.i∧cT v=true)→(aW W).length≤W.length* 1035
 |[],_=>by simp[aW]
 |v::W,h=>by
  have h1:=jG W fun x hx=>h x (by simp[hx])
  have h2:=dx (h v (by simp)).1 (h v (by simp)).2
  have e:aW (v::W)=cS v++aW W:=by simp[aW]
  rw[e,List.length_append,List.length_cons]
  omega
theorem Co{l:List ai}{k:Int}(h:aL l k=0)(hok:∀v∈l,dF v.i):(fa l).length≤10000000:=by
 have hmay:=eF h
 have h4:=dX h
 have hwl:=kI l
 have h1:=jG (aQ aO l) fun v hv=>⟨hok v (ej bg hv),hmay v (ej bg hv)⟩
 have h2:=bn 10 (aQ aO l).length (by omega)
 have hw:=sO (n:=(aQ aO l).length) (by omega)
 have h3:(l.map (dY l)).length* eu (aQ aO l).length≤4096* 12:=Nat.mul_le_mul (by rw[List.length_map];omega) hw
 unfold fa
 rw[List.length_append,List.length_append,cI,cx,en]
 omega
theorem yy(l:List ai)(hl:l.length≤4096)(hok:∀v∈l,dF v.i):(gL l).length≤100000:=by
 cases l with
 |nil=>simp[gL]
 |cons v r=>
  have hv:=hok v (by simp)
  have hz:=gd hv.1 hv.2
  have hw:=kS (kR (v::r))
  have l1:=bn 10 (fU v.i) (by omega)
  have l2:=bn 10 (cZ (bQ (v::r))) (by omega)
  have h3:(bQ (v::r)).length* cZ (bQ (v::r))≤4096* 64:=Nat.mul_le_mul (by rw[fA];omega) hw
  rw[kz,List.length_append,List.length_append,cI,cx,en]
  omega
theorem wC(l:List ai)(hok:∀v∈l,dF v.i):b6 (gL l):=by
 cases l with
 |nil=>intro n hn;simp[gL]at hn
 |cons v r=>
  have h:=hok v (by simp)
  exact((cV (gd h.1 h.2)).app (cV (by have:=kS (kR (v::r));omega))).app (yQ _ _)
theorem uS{l:List ai}(h:∀v∈l,dF v.i∧cT v=true):b6 (aW l):=fun c hc=>by
 obtain⟨v,hv,hc⟩:=List.mem_flatMap.1 hc
 exact jh (h v hv).1 (h v hv).2 c hc
theorem FR{r:Nat×ai}(h1:r.1≤4096)(h2:dF r.2.i∧cT r.2=true):b6 (kX r)∧(kX r).length≤1050:=by
 have h3:=bn 10 r.1 (by omega)
 have h4:=dx h2.1 h2.2
 refine⟨(cV (by omega)).app (jh h2.1 h2.2),?_⟩
 unfold kX
 rw[List.length_append];omega
theorem zI:∀{R:List (Nat×ai)},(∀r∈R,r.1≤4096∧dF r.2.i∧cT r.2=true)→b6 (ek R)∧(ek R).length≤R.length* 1050
 |[],_=>⟨fun c hc=>by simp[ek]at hc,by simp[ek]⟩
 |r::R,h=>by
  obtain⟨h1,h2⟩:=zI (R:=R) fun x hx=>h x (by simp[hx])
  obtain⟨h3,h4⟩:=FR (h r (by simp)).1 (h r (by simp)).2
  have e:ek (r::R)=kX r++ek R:=by simp[ek]
  rw[e]
  exact⟨h3.app h1,by rw[List.length_append,List.length_cons];omega⟩
theorem E2{l:List ai}{k w:Int}(hp:aL l k=0)(hok:∀v∈l,dF v.i):b6 (bV l k w).1∧(bV l k w).1.length≤10000000:=by
 have hmay:=eF hp
 have h4:=dX hp
 have hv:∀v∈l,dF v.i∧cT v=true:=fun v hv=>⟨hok v hv,hmay v hv⟩
 unfold bV
 split
 ·rw[show iy l k=aW l from if_pos hp]
  exact⟨uS hv,by have:=jG l hv;simp only;omega⟩
 split
 ·rw[show se l k=ek (cU l)from if_pos hp]
  have h1:=kN l l.length
  have h2:=kT l l.length
  rw[List.take_length]at h1 h2
  have h3:=ny (p:=fun v=>dF v.i∧cT v=true) (l:=l) hv
  obtain⟨g1,g2⟩:=zI (R:=cU l) fun r hr=>⟨by have:=h2 r hr;omega,h3 r hr⟩
  exact⟨g1,by simp only;omega⟩
 split
 ·rw[show ln l k=fa l from if_pos hp]
  exact⟨yU hp hok,Co hp hok⟩
 split
 ·unfold jU
  split
  ·exact⟨wC l hok,by have:=yy l h4 hok;simp only;omega⟩
  ·exact⟨fun c hc=>by simp at hc,by simp⟩
 ·exact⟨fun c hc=>by simp at hc,by simp⟩
theorem jm{l:List ai}{k w:Int}(h:(bV l k w).2=0):1≤w∧w≤4∧(w=4→k=1):=by
 unfold bV at h
 split at h
 ·omega
 split at h
 ·omega
 split at h
 ·omega
 split at h
 ·omega
 ·simp at h
def rl(v:ai):Prop:=dF v.i∧cT v=true
def tW(z:Zn):Prop:=rl z.mn∧rl z.mx
theorem we{z:Zn}{v:ai}(hz:tW z)(hv:v.kind≠0→rl v):tW (aI z v):=by
 unfold aI
 split
 ·exact hz
 rename_i hk
 have hv:=hv hk
 have h1:tW (dQ z v):=by unfold dQ;split;exact⟨hv,hv⟩;exact hz
 have h2:tW (ec (dQ z v) v):=by unfold ec;split;exact⟨hv,h1.2⟩;exact h1
 unfold fh;split;exact⟨h2.1,hv⟩;exact h2
theorem vM{l:List ai}(h:∀v∈l,v.kind≠0→rl v):tW (aZ l):=by
 have:∀(l:List ai) (z:Zn),(∀v∈l,v.kind≠0→rl v)→tW z→tW (l.foldl aI z):=by
  intro l
  induction l with
  |nil=>exact fun z _ h=>h
  |cons v l ih=>exact fun z hl hz=>ih _ (fun x hx=>hl x (by simp[hx])) (we hz (hl v (by simp)))
 have e0:rl ⟨0,0,dA⟩:=⟨⟨by decide,by decide⟩,by simp[cT,gr]⟩
 exact this l _ h ⟨e0,e0⟩
theorem qW(z:Zn)(v:ai):(aI z v).rows=z.rows:=by
 unfold aI
 split
 ·rfl
 ·unfold fh;split<;>(unfold ec;split<;>(unfold dQ;split<;>rfl))
theorem fz(l:List ai):(aZ l).rows=l.length:=by
 have:∀(m:List ai) (z:Zn),(m.foldl aI z).rows=z.rows:=by
  intro m
  induction m with
  |nil=>exact fun z=>rfl
  |cons v m ih=>exact fun z=>(ih _).trans (qW z v)
 exact this l _
theorem pw(z:Zn)(v:ai):(aI z v).az=z.az+if v.kind=0 then 1 else 0:=by
 unfold aI
 split
 ·rfl
 ·have e1:(dQ z v).az=z.az:=by unfold dQ;split<;>rfl
  have e2:∀z,(ec z v).az=z.az:=fun z=>by unfold ec;split<;>rfl
  have e3:∀z,(fh z v).az=z.az:=fun z=>by unfold fh;split<;>rfl
  rw[e3,e2,e1];rfl
theorem ij(l:List ai):(aZ l).az=aE (bR l):=by
 have:∀(m:List ai) (z:Zn),(m.foldl aI z).az=z.az+aE (bR m):=by
  intro m
  induction m with
  |nil=>exact fun z=>rfl
  |cons v m ih=>
   intro z
   rw[List.foldl_cons,ih,pw]
   have e:aE (bR (v::m))=(if v.kind=0 then 1 else 0)+aE (bR m):=by
    unfold bR aE
    rw[List.map_cons,List.countP_cons]
    by_cases h:v.kind=0<;>simp[h]<;>omega
   rw[e];omega
 rw[aZ,this l _]
 simp
structure Made (l:List ai) (k w:Int) (s:Sg):Prop where
 kY:aL (aB l) k=0
 len:l.length≤4096
 zW:(bV (aB l) k (bD l k w)).2=0
 eq:s=⟨k,bD l k w,aZ l,b5 l,(bV (aB l) k (bD l k w)).1⟩
theorem nA{l:List ai}{k w:Int}(h:(dL l k w).2=0):Made l k w (dL l k w).1:=by
 unfold dL at*
 split at h
 ·rename_i he;exact absurd h he
 rename_i h1
 rw[if_neg h1]
 split at h
 ·simp at h
 rename_i h2
 rw[if_neg h2]
 split at h
 ·rename_i he;exact absurd h he
 rename_i h3
 rw[if_neg h3]
 exact⟨by simpa using h1,by omega,by simpa using h3,rfl⟩
theorem kf{l:List ai}{v:ai}(h:v∈aB l):v∈l:=(List.mem_filter.1 h).1
theorem FL{l:List ai}{v:ai}(h:v∈l)(hk:v.kind≠0):v∈aB l:=List.mem_filter.2 ⟨h,by simpa using hk⟩
theorem Made.Fz{l:List ai}{k w:Int}{s:Sg}(h:Made l k w s)(hok:∀v∈l,dF v.i):∀v∈l,v.kind≠0→fX k v:=fun v hv hk=>by
 have hs:=FL hv hk
 have:=((cf _ _).1 h.kY).2.2 v hs
 exact⟨this.2,this.1,hok v hv⟩
theorem Made.bytes{l:List ai}{k w:Int}{s:Sg}(hm:Made l k w s)(hok:∀v∈l,dF v.i):∃kn cn:Nat,k=(kn:Int)∧1≤kn∧kn≤3∧bD l k w=(cn:Int)∧1≤cn∧cn≤4∧b6 (cL kn cn s)∧(cL kn cn s).length≤20000000∧(∀H,ag Tryz.prog 15 [.agg s.cs] H (.ok (.d (.list false (aG (iG kn cn s))))) H)∧
  ∀H:aa,ag Tryz.prog 15 [.agg s.cs] H (.ok (.sl (H.length+3) ((a9 (cL kn cn s).length).length+2) 0 (iG kn cn s).length)) (H++[.box 30 12 0 1 s.cs,.arr 5 1 9 [],.arr 83 4 1 [],.arr 5 1 ((a9 (cL kn cn s).length).length+2) (aG (iG kn cn s))]):=by
 have hk:=((cf _ _).1 hm.kY).1
 rw[fl]at hk
 obtain⟨c1,c2,_⟩:=jm hm.zW
 have hz:tW (aZ l):=vM fun v hv hk=>⟨hok v hv,(hm.Fz hok v hv hk).1⟩
 have hnu:=ij l
 have hro:=fz l
 have hcl:=fj (bR l)
 have hnl:=dU l
 obtain⟨b1,b2⟩:=E2 (w:=bD l k w) hm.kY fun v hv=>hok v (kf hv)
 have hml:(b5 l).length≤4096:=by have:=hm.len;unfold b5;split;simp;omega
 have hl4:=hm.len
 have hlen1:=bn 10 k.toNat (by omega)
 have hlen2:=bn 10 (bD l k w).toNat (by omega)
 have hlen3:=bn 10 (aZ l).rows (by omega)
 have hlen4:=bn 10 (aZ l).az (by omega)
 have hb2:b6 (cL k.toNat (bD l k w).toNat s):=by
  rw[hm.eq]
  unfold cL
  simp only
  refine((((?_:b6 _).app ?_).app (jh hz.1.1 hz.1.2)).app (jh hz.2.1 hz.2.2)).app b1
  ·intro c hc
   obtain⟨x,hx,hc⟩:=List.mem_flatMap.1 hc
   simp only[List.mem_cons,List.not_mem_nil,or_false]at hx
   exact cV (by omega) c hc
  ·intro c hc
   obtain⟨i,_,rfl⟩:=List.mem_map.1 hc
   exact kM _ _
 have hv1:=dx hz.1.1 hz.1.2
 have hv2:=dx hz.2.1 hz.2.2
 have pre:= @qx s k.toNat (bD l k w).toNat (by rw[hm.eq];simp only;omega) (by rw[hm.eq];simp only;omega) (by omega) (by omega) (by rw[hm.eq];simp only;omega) (by rw[hm.eq];simp only;omega) (by rw[hm.eq];simp only;omega) (by rw[hm.eq];simp only;omega) (by rw[hm.eq];exact hz) (by rw[hm.eq];exact b1) hb2
 have pre2:= @vN s k.toNat (bD l k w).toNat (by rw[hm.eq];simp only;omega) (by rw[hm.eq];simp only;omega) (by omega) (by omega) (by rw[hm.eq];simp only;omega) (by rw[hm.eq];simp only;omega) (by rw[hm.eq];simp only;omega) (by rw[hm.eq];simp only;omega) (by rw[hm.eq];exact hz) (by rw[hm.eq];exact b1) hb2
 refine⟨k.toNat,(bD l k w).toNat,by omega,by omega,by omega,by omega,by omega,by omega,hb2,?_,pre2,pre⟩
 rw[hm.eq]
 unfold cL
 simp only[List.length_append,eR,List.flatMap_cons,List.flatMap_nil,List.length_nil,cx]
 omega
def Ch:Option ai→List (Nat×ai)→Prop
 |_,[]=>True
 |o,r::R=>o≠some r.2∧Ch (some r.2) R
def nU(o:Option ai):List (Nat×ai)→Option ai
 |[]=>o
 |r::R=>nU (some r.2) R
theorem oM:∀(o:Option ai) (R:List (Nat×ai)) (r:Nat×ai),Ch o (R++[r])↔Ch o R∧nU o R≠some r.2
 |o,[],r=>by simp[Ch,nU]
 |o,x::R,r=>by
  show(o≠some x.2∧Ch (some x.2) (R++[r]))↔(o≠some x.2∧Ch (some x.2) R)∧nU (some x.2) R≠some r.2
  rw[oM,and_assoc]
theorem lC:∀(o:Option ai) (R:List (Nat×ai)) (r:Nat×ai),nU o (R++[r])=some r.2
 |o,[],r=>rfl
 |o,x::R,r=>lC (some x.2) R r
theorem pZ{R:List (Nat×ai)}(h:R≠[]):nU none R=some (cE R).2:=by
 have e:=List.dropLast_concat_getLast h
 have e2:cE R=R.getLast h:=by unfold cE;rw[List.getLast?_eq_some_getLast h];rfl
 rw[e2]
 have:=lC none R.dropLast (R.getLast h)
 rwa[e]at this
def kV(R:List (Nat×ai)):Nat:=(R.map (·.1)).sum
def jj(R:List (Nat×ai)):List ai:=R.flatMap fun r=>List.replicate r.1 r.2
theorem nM(R S:List (Nat×ai)):jj (R++S)=jj R++jj S:=by simp[jj]
theorem BN(R:List (Nat×ai)):(jj R).length=kV R:=by
 induction R with
 |nil=>rfl
 |cons r R ih=>simp[jj,kV]at ih⊢
theorem uO(R:List (Nat×ai))(h:kV R≤4096):cJ R=jj R:=by
 have:∀(R:List (Nat×ai)) (l:List ai),l.length+kV R≤4096→R.foldl bU l=l++jj R:=by
  intro R
  induction R with
  |nil=>intro l _;simp[jj]
  |cons r R ih=>
   intro l h
   have e:kV (r::R)=r.1+kV R:=by simp[kV]
   rw[e]at h
   rw[List.foldl_cons,ih _ (by simp only[bU,List.length_append,List.length_replicate];omega)]
   have e2:min r.1 (4096-l.length)=r.1:=by omega
   simp[bU,e2,jj]
 have:=this R [] (by simpa using h)
 simpa[cJ]using this
structure y7 (l:List ai) (R:List (Nat×ai)):Prop where
 ch:Ch none R
 flat:jj R=l
 one:∀r∈R,1≤r.1
theorem y7.add{l:List ai}{R:List (Nat×ai)}(h:y7 l R)(v:ai):y7 (l++[v]) (gQ R v):=by
 unfold gQ
 by_cases c:R≠[]∧(cE R).2=v
 ·rw[if_pos c]
  obtain⟨hne,hv⟩:=c
  have e:=List.dropLast_concat_getLast hne
  have e2:cE R=R.getLast hne:=by unfold cE;rw[List.getLast?_eq_some_getLast hne];rfl
  rw[e2]at hv⊢
  obtain⟨h1,h2,h3⟩:=h
  generalize R.getLast hne=q at*
  generalize R.dropLast=D at*
  subst e
  obtain⟨n,w⟩:=q
  simp only at hv⊢
  subst hv
  rw[oM]at h1
  refine⟨(oM _ _ _).2 h1,?_,fun r hr=>?_⟩
  ·rw[←h2,nM,nM,List.append_assoc]
   congr 1
   simp[jj,List.replicate_succ']
  ·rcases List.mem_append.1 hr with hr|hr
   ·exact h3 r (by simp[hr])
   ·rw[List.mem_singleton.1 hr];simp only;omega
 ·rw[if_neg c]
  refine⟨(oM _ _ _).2 ⟨h.ch,fun hl=>?_⟩,?_,fun r hr=>?_⟩
  ·by_cases hne:R=[]
   ·subst hne;simp[nU]at hl
   ·rw[pZ hne]at hl
    exact c ⟨hne,Option.some.inj hl⟩
  ·rw[nM,h.flat];simp[jj]
  ·rcases List.mem_append.1 hr with hr|hr
   ·exact h.one r hr
   ·rw[List.mem_singleton.1 hr];simp
theorem FH(l:List ai):y7 l (cU l):=by
 have:∀(m l:List ai) (R:List (Nat×ai)),y7 l R→y7 (l++m) (m.foldl gQ R):=by
  intro m
  induction m with
  |nil=>intro l R h;simpa using h
  |cons v m ih=>
   intro l R h
   have:=ih _ _ (h.add v)
   rwa[List.append_assoc]at this
 have h0:y7 [] []:=⟨trivial,rfl,by simp⟩
 simpa[cU]using this l [] [] h0
theorem BZ{k:Int}(hk:bI k=true)(q:Nat×ai)(n:Nat)(r:List Nat)(h1:1≤q.1)(hn:q.1≤n)(h4:q.1≤4096)(hg:fX k q.2):dC (kX q++r) n k=(q,r,0):=by
 obtain⟨m,w⟩:=q
 simp only at h1 hn h4 hg
 unfold dC kX
 simp only
 rw[List.append_assoc,fc m (by omega)]
 simp only
 rw[List.drop_left' rfl]
 have ho:=oN (v:=w) r hg.2.2 hg.1 (by rw[hg.2.1];exact hk)
 rw[hg.2.1]at ho
 rw[ho]
 simp only
 rw[if_neg (by simp),if_neg (by omega),if_neg (by simp)]
theorem z7{k:Int}(hk:bI k=true):∀(R A:List (Nat×ai)) (f:Nat),Ch (nU none A) R→(∀r∈R,1≤r.1∧r.1≤4096∧fX k r.2)→R.length≤f→ti k f A (kV R) (ek R)=(A++R,[],0)
 |[],A,f,_,_,_=>by cases f<;>simp[ti,kV,ek]
 |r::R,A,0,_,_,hf=>by simp at hf
 |r::R,A,f+1,hc,hg,hf=>by
  obtain⟨g1,g2,g3⟩:=hg r (by simp)
  have e:kV (r::R)=r.1+kV R:=by simp[kV]
  have e2:ek (r::R)=kX r++ek R:=by simp[ek]
  have hn:=BZ hk r (r.1+kV R) (ek R) g1 (by omega) g2 g3
  unfold ti
  rw[e,e2,if_neg (by omega),hn]
  simp only
  rw[if_neg (by simp)]
  have hne:¬(A≠[]∧(cE A).2=r.2):=by
   rintro⟨h1,h2⟩
   rw[pZ h1,h2]at hc
   exact hc.1 rfl
  rw[if_neg hne,show r.1+kV R-r.1=kV R by omega]
  have:=z7 hk R (A++[r]) f (by rw[lC];exact hc.2) (fun x hx=>hg x (by simp[hx])) (by simpa using hf)
  rw[this,List.append_assoc];rfl
theorem sE{l:List ai}{k:Int}(h:aL l k=0)(hok:∀v∈l,dF v.i):fO (ek (cU l)) l.length k=(l,0):=by
 obtain⟨hk,hl,hv⟩:=(cf l k).1 h
 have hR:=FH l
 have hgR:=ny (p:=fX k) (l:=l) fun v hm=>⟨(hv v hm).2,(hv v hm).1,hok v hm⟩
 have hcnt:=kT l l.length
 have hlen:=kN l l.length
 rw[List.take_length]at hcnt hlen
 have hs:kV (cU l)=l.length:=by rw[←BN,hR.flat]
 have ht:=z7 hk (cU l) [] l.length hR.ch (fun r hr=>⟨hR.one r hr,by have:=hcnt r hr;omega,hgR r hr⟩) hlen
 rw[hs,List.nil_append]at ht
 have hto:dK (ek (cU l)) l.length k=(cU l,0):=by
  unfold dK
  rw[if_neg (by simp[hk]),if_neg (by omega),if_neg (by omega),Int.toNat_natCast,ht]
  simp
 unfold fO
 rw[hto]
 simp only
 rw[if_neg (by simp),uO _ (by omega),hR.flat]
theorem oX{l:List ai}{k:Int}(h:aL l k=0)(hok:∀v∈l,dF v.i):dq (aW l) l.length k=(l,0):=by
 obtain⟨hk,hl,hv⟩:=(cf l k).1 h
 have:=nm hk l [] fun v hm=>⟨(hv v hm).2,(hv v hm).1,hok v hm⟩
 rw[List.append_nil]at this
 unfold dq
 rw[if_neg (by simp[hk]),if_neg (by omega),if_neg (by omega),Int.toNat_natCast,this]
 simp
theorem sf{l:List ai}(h:aL l 1=0):∀v∈l,v=ca v.i:=fun v hv=>by
 obtain⟨_,_,hg⟩:=(cf l 1).1 h
 obtain⟨g1,g2⟩:=hg v hv
 exact jF g1 rfl ((kj g1).1 g2)
theorem Ai{l:List ai}{k w:Int}(h:aL l k=0)(hb:(bV l k w).2=0)(hok:∀v∈l,dF v.i):fS (bV l k w).1 l.length k w=(l,0):=by
 unfold bV at*
 unfold fS
 by_cases h1:w=1
 ·rw[if_pos h1,if_pos h1]
  rw[show iy l k=aW l from if_pos h]
  exact oX h hok
 rw[if_neg h1,if_neg h1]at*
 by_cases h2:w=2
 ·rw[if_pos h2,if_pos h2]
  rw[show se l k=ek (cU l)from if_pos h]
  exact sE h hok
 rw[if_neg h2,if_neg h2]at*
 by_cases h3:w=3
 ·rw[if_pos h3,if_pos h3]
  rw[show ln l k=fa l from if_pos h]
  exact(qO h hok).2
 rw[if_neg h3,if_neg h3]at*
 by_cases h4:w=4∧k=1
 ·rw[if_pos h4,if_pos h4]
  obtain⟨_,rfl⟩:=h4
  by_cases hl:l=[]
  ·subst hl
   simp[jU,ry]
  ·have:=Dk l hl ((cf l 1).1 h).2.1 (sf h) hok
   simp only[jU]
   rw[if_pos ⟨h,hl⟩,this]
   rfl
 ·rw[if_neg h4]at hb
  simp at hb
def eS:Nat→List Nat→List Nat→List Nat×List Nat×Int
 |0,b,acc=>(acc,b,0)
 |f+1,b,acc=>if(aJ b).2.2≠0 then([],[],(aJ b).2.2)else eS f (b.drop (aJ b).2.1) (acc++[min (aJ b).1 1048576])
def dJ(l:List Nat):Bool:=decide (1≤l.getD 0 0)&&decide (l.getD 0 0≤3)&&decide (l.getD 2 0≤4096)&&decide (l.getD 3 0≤l.getD 2 0)
def CS(l:List Nat):Sg:=⟨(l.getD 0 0:Nat),(l.getD 1 0:Nat),⟨l.getD 2 0,l.getD 3 0,⟨0,0,dA⟩,⟨0,0,dA⟩⟩,[],[]⟩
def ev(b:List Nat):Sg×List Nat×Int:=
 if(eS 4 b []).2.2≠0 then(Al,[],(eS 4 b []).2.2)
 else if dJ (eS 4 b []).1=false then(Al,[],4)
 else(CS (eS 4 b []).1,(eS 4 b []).2.1,0)
def l5(l:List Nat)(n:Nat):List AV:=(l++List.replicate n 0).map fun(x:Nat)=>iA x
theorem rz:∀(f:Nat) (b acc:List Nat),(eS f b acc).2.2=0→(eS f b acc).1.length=acc.length+f
 |0,b,acc,_=>rfl
 |f+1,b,acc,h=>by
  unfold eS at h⊢
  split at h
  ·rename_i he;exact absurd h he
  ·rename_i he
   rw[if_neg he,rz f _ _ h]
   simp;omega
theorem mE:∀(f:Nat) (b acc:List Nat),∃j,(eS f b acc).2.1=b.drop j∨(eS f b acc).2.1=[]
 |0,b,acc=>⟨0,.inl rfl⟩
 |f+1,b,acc=>by
  unfold eS
  split
  ·exact⟨0,.inr rfl⟩
  ·obtain⟨j,h⟩:=mE f (b.drop (aJ b).2.1) (acc++[min (aJ b).1 1048576])
   rcases h with h|h
   ·exact⟨(aJ b).2.1+j,.inl (by rw[h,List.drop_drop])⟩
   ·exact⟨0,.inr h⟩
theorem BB(b:List Nat)(hb:∀c∈b,c<256)(hl:b.length≤140737488351232)(H:aa):
  ag Tryz.prog 19 [.d (.list false (aG b))] H (.ok (.bf [.agg (ev b).1.cs,.d (.list false (aG (ev b).2.1)),iA (ev b).2.2])) H:=by
 obtain⟨q,hq⟩:∃q,q=eS 4 b []:=⟨_,rfl⟩
 have hhp:ev b=if q.2.2≠0 then(Al,[],q.2.2)else if dJ q.1=false then(Al,[],4)else(CS q.1,q.2.1,0):=by rw[hq];rfl
 rw[hhp]
 have hql:q.2.2=0→q.1.length=4:=fun h=>by rw[hq]at h⊢;rw[rz 4 b [] h];rfl
 suffices h:ag Tryz.prog 19 [.d (.list false (aG b))] H (.ok (if q.2.2≠0 then .bf [.agg fK,.d (.v (.slice none 0 0)),iA q.2.2]else if dJ q.1=false then .bf [.agg fK,.d (.v (.slice none 0 0)),iA 4]
   else .bf [.agg [iA (q.1.getD 0 0:Nat),iA (q.1.getD 1 0:Nat),iA (q.1.getD 2 0:Nat),iA (q.1.getD 3 0:Nat),iA 0,iA 0,sA dA,iA 0,iA 0,sA dA,.d (.v (.slice none 0 0)),.d (.v (.slice none 0 0))],.d (.list false (aG q.2.1)),iA 0])) H by
  by_cases c1:q.2.2≠0
  ·rw[if_pos c1]at h⊢
   exact ag.bY h (.cons fF (.cons .nil (.cons (.refl _) .nil)))
  ·rw[if_neg c1]at h⊢
   by_cases c2:dJ q.1=false
   ·rw[if_pos c2]at h⊢
    exact ag.bY h (.cons fF (.cons .nil (.cons (.refl _) .nil)))
   ·rw[if_neg c2]at h⊢
    exact ag.bY h (.cons (.agg (.cons (.refl _) (.cons (.refl _) (.cons (.refl _) (.cons (.refl _) (.cons (.refl _) (.cons (.refl _) (.cons (.refl _) (.cons (.refl _) (.cons (.refl _) (.cons (.refl _) (.cons .nil (.cons .nil .nil))))))))))))) (.cons (.refl _) (.cons (.refl _) .nil)))
 refine ag.bL (hint:=fun _=>false) Tryz.func19 (by kernel_rfl) rfl [.cell 2 30,.tmp 3,.tmp 4] (by kernel_rfl) (by simp[Tryz.ntmps19]) ?_
 rw[Tryz.ntmps19]
 simp -implicitDefEqProofs only[go_sem,eq_self]
 refine bl (fun k s H'=>∃c acc,H'=H++[.box 30 12 0 1 [iA 0,iA 0,iA 0,iA 0,iA 0,iA 0,sA ⟨#[]⟩,iA 0,iA 0,sA ⟨#[]⟩,.d (.v (.slice none 0 0)),.d (.v (.slice none 0 0))],.box 88 4 0 1 (l5 acc (4-k))]∧eS (4-k) c acc=q∧acc.length=k∧c.length≤b.length∧(∀x∈c,x<256)∧(∀x∈acc,x≤1048576)∧s 0= .d (.list false (aG c))∧s 2= .ptr H.length 0 0 0∧s 5= .ptr (H.length+1) 0 0 0∧s 11=iA k) 4 (by omega) (ar.refl _ _) ?_ ?_ ?_
 ·refine⟨b,[],rfl,hq.symm,rfl,Nat.le_refl _,hb,by simp,?_⟩
  simp -implicitDefEqProofs only[↓reduceIte,go_sem,Nat.reduceLT,Nat.reduceEqDiff,reduceCtorEq,eq_self]
 ·rintro k s H' hk hw ⟨c,acc,rfl,hF,hal,hcl,hcb,hac,t0,t2,t5,t11⟩
  have hg:=fun H=>kd c (by omega) hcb H
  have hle:=jw c
  obtain⟨m,hm⟩:∃m,4-k=m+1:=⟨3-k,by omega⟩
  rw[hm]at hF
  unfold eS at hF
  generalize aJ c=g at*
  obtain⟨n,j,e⟩:=g
  simp only at hF hg hle
  simp -implicitDefEqProofs only[↓reduceIte,go_sem,Nat.reduceLT,Nat.reduceEqDiff,reduceCtorEq,eq_self,t0,t11,show((k:Int)<4)=True from eq_true (by omega)]
  refine ab.ok (hg _) ?_
  by_cases he:e=0
  ·subst he
   rw[if_neg (by simp)]at hF
   have hmin:min (n:Int) 1048576=((min n 1048576:Nat):Int):=by omega
   have w1:IntKind.i64.wrap ((min n 1048576:Nat):Int)=((min n 1048576:Nat):Int):=wrap64_in _ (by omega) (by omega)
   have hmle:min n 1048576≤1048576:=by omega
   generalize min n 1048576=y at*
   have hzl:(l5 acc (4-k)).length=4:=by simp[l5];omega
   have hset:List.take k (l5 acc (4-k))++iA y::List.drop (k+1) (l5 acc (4-k))=l5 (acc++[y]) (4-(k+1)):=by
    unfold l5
    rw[hm,show 4-(k+1)=m by omega]
    subst hal
    simp[List.replicate_succ,List.drop_append]
   generalize l5 acc (4-k)=Z at*
   have htl:List.take c.length (aG c)=aG c:=List.take_of_length_le (Nat.le_of_eq (al c))
   have hdj:List.drop j (aG c)=aG (c.drop j):=by unfold aG;rw[List.map_drop]
   simp -implicitDefEqProofs only[↓reduceIte,go_sem,ak,Nat.reduceLT,Nat.reduceLeDiff,Nat.reduceEqDiff,reduceCtorEq,eq_self,t0,t5,t11,hmin,w1,hzl,show((k:Int)<4)=True from eq_true (by omega),show k≤3 by omega,hset,aS,al,htl,hdj]
   refine⟨by omega,?_⟩
   refine eQ.same ⟨c.drop j,acc++[y],rfl,by rw[show 4-(k+1)=m by omega];exact hF,by simp[hal],by rw[List.length_drop];omega,fun x hx=>hcb x (List.mem_of_mem_drop hx),?_,?_⟩
   ·intro x hx
    rcases List.mem_append.1 hx with h|h
    ·exact hac x h
    ·rw[List.mem_singleton.1 h];exact hmle
   ·simp -implicitDefEqProofs only[↓reduceIte,go_sem,Nat.reduceLT,Nat.reduceEqDiff,reduceCtorEq,eq_self,t2,t5,hw]
  ·rw[if_pos he]at hF
   have hq2:q.2.2=e:=by rw[←hF]
   simp -implicitDefEqProofs only[↓reduceIte,go_sem,ak,Nat.reduceAdd,Nat.reduceLT,Nat.reduceEqDiff,eq_self,he,t2]
   rw[hq2,if_pos he]
   refine bp.ret ?_
   simp -implicitDefEqProofs only[↓reduceIte,go_sem,ah,Nat.reduceAdd,Nat.reduceLT,Nat.reduceLeDiff,Nat.reduceEqDiff,eq_self,aK,bH,t2,fK,dA]
 ·rintro s H' ⟨c,acc,rfl,hF,hal,hcl,hcb,hac,t0,t2,t5,t11⟩
  have hq1:q=(acc,c,0):=hF.symm
  rw[hq1]
  obtain⟨a0,a1,a2,a3,rfl⟩:∃a0 a1 a2 a3,acc=[a0,a1,a2,a3]:=by
   match acc,hal with
   |[a0,a1,a2,a3],_=>exact⟨_,_,_,_,rfl⟩
  have hz:l5 [a0,a1,a2,a3] (4-4)=[iA a0,iA a1,iA a2,iA a3]:=rfl
  rw[hz]
  rw[if_neg (by simp)]
  simp only[List.getD_eq_getElem?_getD,List.getElem?_cons_zero,List.getElem?_cons_succ,Option.getD_some]
  simp -implicitDefEqProofs only[↓reduceIte,go_sem,ah,ak,Nat.reduceAdd,Nat.reduceLT,Nat.reduceLeDiff,Nat.reduceEqDiff,Int.reduceLE,Int.reduceLT,Int.reduceToNat,eq_self,t5,t11]
  by_cases h1:a0<1
  ·have hno:dJ [a0,a1,a2,a3]=false:=by unfold dJ;simp;omega
   rw[if_pos hno]
   simp -implicitDefEqProofs only[↓reduceIte,go_sem,ak,Nat.reduceAdd,Nat.reduceLT,Nat.reduceEqDiff,eq_self,show((a0:Int)<1)=True from eq_true (by omega),t2]
   refine bp.ret ?_
   simp -implicitDefEqProofs only[↓reduceIte,go_sem,ah,Nat.reduceAdd,Nat.reduceLT,Nat.reduceLeDiff,Nat.reduceEqDiff,eq_self,aK,bH,t2,fK,dA]
  by_cases h2:3<a0
  ·have hno:dJ [a0,a1,a2,a3]=false:=by unfold dJ;simp;omega
   rw[if_pos hno]
   simp -implicitDefEqProofs only[↓reduceIte,go_sem,ah,ak,Nat.reduceAdd,Nat.reduceLT,Nat.reduceLeDiff,Nat.reduceEqDiff,reduceCtorEq,eq_self,show((a0:Int)<1)=False from eq_false (by omega),show((3:Int)<(a0:Int))=True from eq_true (by omega),t2]
   refine bp.ret ?_
   simp -implicitDefEqProofs only[↓reduceIte,go_sem,ah,Nat.reduceAdd,Nat.reduceLT,Nat.reduceLeDiff,Nat.reduceEqDiff,eq_self,aK,bH,t2,fK,dA]
  by_cases h3:4096<a2
  ·have hno:dJ [a0,a1,a2,a3]=false:=by unfold dJ;simp;omega
   rw[if_pos hno]
   simp -implicitDefEqProofs only[↓reduceIte,go_sem,ah,ak,Nat.reduceAdd,Nat.reduceLT,Nat.reduceLeDiff,Nat.reduceEqDiff,reduceCtorEq,eq_self,show((a0:Int)<1)=False from eq_false (by omega),show((3:Int)<(a0:Int))=False from eq_false (by omega),show((4096:Int)<(a2:Int))=True from eq_true (by omega),t2]
   refine bp.ret ?_
   simp -implicitDefEqProofs only[↓reduceIte,go_sem,ah,Nat.reduceAdd,Nat.reduceLT,Nat.reduceLeDiff,Nat.reduceEqDiff,eq_self,aK,bH,t2,fK,dA]
  by_cases h4:a2<a3
  ·have hno:dJ [a0,a1,a2,a3]=false:=by unfold dJ;simp;omega
   rw[if_pos hno]
   simp -implicitDefEqProofs only[↓reduceIte,go_sem,ah,ak,Nat.reduceAdd,Nat.reduceLT,Nat.reduceLeDiff,Nat.reduceEqDiff,reduceCtorEq,eq_self,show((a0:Int)<1)=False from eq_false (by omega),show((3:Int)<(a0:Int))=False from eq_false (by omega),show((4096:Int)<(a2:Int))=False from eq_false (by omega),show((a2:Int)<(a3:Int))=True from eq_true (by omega),t2]
   refine bp.ret ?_
   simp -implicitDefEqProofs only[↓reduceIte,go_sem,ah,Nat.reduceAdd,Nat.reduceLT,Nat.reduceLeDiff,Nat.reduceEqDiff,eq_self,aK,bH,t2,fK,dA]
  have hyes:dJ [a0,a1,a2,a3]=true:=by unfold dJ;simp;omega
  rw[if_neg (by rw[hyes];simp)]
  simp -implicitDefEqProofs only[↓reduceIte,go_sem,ah,ak,Nat.reduceAdd,Nat.reduceLT,Nat.reduceLeDiff,Nat.reduceEqDiff,reduceCtorEq,eq_self,show((a0:Int)<1)=False from eq_false (by omega),show((3:Int)<(a0:Int))=False from eq_false (by omega),show((4096:Int)<(a2:Int))=False from eq_false (by omega),show((a2:Int)<(a3:Int))=False from eq_false (by omega),t0,t2]
  refine bp.ret ?_
  simp -implicitDefEqProofs only[↓reduceIte,go_sem,ah,Nat.reduceAdd,Nat.reduceLT,Nat.reduceLeDiff,Nat.reduceEqDiff,eq_self,aK,bH,t2,dA]
def jK(s:Sg)(b:List Nat):Sg×List Nat×Int:=
 if s.aM.az=s.aM.rows then(s,b,0)
 else
  if(dz b s.kind).2.2≠0 then(⟨s.kind,s.aX,⟨s.aM.rows,s.aM.az,(dz b s.kind).1,s.aM.mx⟩,s.az,s.body⟩,[],(dz b s.kind).2.2)
  else if(dz (dz b s.kind).2.1 s.kind).2.2≠0 then(⟨s.kind,s.aX,⟨s.aM.rows,s.aM.az,(dz b s.kind).1,(dz (dz b s.kind).2.1 s.kind).1⟩,s.az,s.body⟩,[],(dz (dz b s.kind).2.1 s.kind).2.2)
  else(⟨s.kind,s.aX,⟨s.aM.rows,s.aM.az,(dz b s.kind).1,(dz (dz b s.kind).2.1 s.kind).1⟩,s.az,s.body⟩,(dz (dz b s.kind).2.1 s.kind).2.1,0)
def fy(s:Sg)(l:List Bool):Sg:=⟨s.kind,s.aX,s.aM,l,s.body⟩
def eL(s:Sg)(b:List Nat):Sg×List Nat×Int:=
 if s.aM.az=0 then jK s b
 else if b.length<(s.aM.rows+7)/8 then(s,[],3)
 else if bG (b.take ((s.aM.rows+7)/8)) s.aM.rows 1≠0 then(fy s [],[],bG (b.take ((s.aM.rows+7)/8)) s.aM.rows 1)
 else jK (fy s (vT (b.take ((s.aM.rows+7)/8)) s.aM.rows)) (b.drop ((s.aM.rows+7)/8))
abbrev sB(s:Sg):aA:= .box 30 12 0 1 s.cs
theorem yS(s:Sg)(b:List Nat)(hr:s.aM.rows≤1000000)(hb:∀c∈b,c<256)(hl:b.length≤140737488351232)(G:aa)(id:Nat)(hG:G[id]?=some (sB s)):
  ag Tryz.prog 20 [.ptr id 0 0 0,.d (.list false (aG b))] G (.ok (.bf [.d (.list false (aG (eL s b).2.1)),iA (eL s b).2.2])) (G.set id (sB (eL s b).1)):=by
 obtain⟨sk,sc,⟨zr,zn,zmn,zmx⟩,ns,bd⟩:=s
 simp only at hr
 unfold sB Sg.cs at hG
 simp only at hG
 unfold eL
 simp only
 by_cases h0:zn=0
 ·rw[if_pos h0]
  subst h0
  obtain⟨G1,hGG⟩:∃G1,G1=G:=⟨_,rfl⟩
  have hG1:G1[id]?=some (.box 30 12 0 1 [iA sk,iA sc,iA zr,iA (0:Nat),iA zmn.kind,iA zmn.i,sA zmn.s,iA zmx.kind,iA zmx.i,sA zmx.s,.d (.list false (cr ns)),.d (.list false (aG bd))]):=by rw[hGG];exact hG
  rw[←hGG]
  clear hG hGG
  have hB:=hb
  have s1:∀o:aA,(G1.set id o)[id]?=some o:=fun o=>by rw[List.getElem?_set_self (ao hG1)]
  have s2:∀o o':aA,(G1.set id o).set id o'=G1.set id o':=fun o o'=>List.set_set ..
  have v1:=fun H=>eE b sk (by omega) hB H
  unfold jK
  simp only
  by_cases h1:0=zr
  ·have h1t:((0:Int)=(zr:Int))=True:=eq_true (by omega)
   have hsame:G1.set id (.box 30 12 0 1 [iA sk,iA sc,iA zr,iA (0:Nat),iA zmn.kind,iA zmn.i,sA zmn.s,iA zmx.kind,iA zmx.i,sA zmx.s,.d (.list false (cr ns)),.d (.list false (aG bd))])=G1:=by
    obtain⟨hl,hx⟩:=List.getElem?_eq_some_iff.1 hG1
    rw[←hx];exact List.set_getElem_self hl
   rw[if_pos h1]
   unfold sB Sg.cs
   simp only
   rw[hsame]
   refine ag.aj (hint:=(fun _=>false)) Tryz.func20 (by kernel_rfl) rfl [4,5] (by kernel_rfl) (by decide) (by simp[Tryz.ntmps20]) ?_
   rw[Tryz.ntmps20]
   simp -implicitDefEqProofs only[↓reduceIte,go_sem,ah,Nat.reduceAdd,Nat.reduceLT,Nat.reduceLeDiff,Int.reduceLT,reduceCtorEq,eq_self,hG1]
   refine bP K.mixed (by kernel_rfl) ?_
   simp -implicitDefEqProofs only[↓reduceIte,go_sem,ah,Nat.reduceAdd,Nat.reduceLT,Nat.reduceLeDiff,Nat.reduceEqDiff,reduceCtorEq,eq_self,hG1,h1t]
   exact⟨_,ar.refl _ _,by simp -implicitDefEqProofs only[↓reduceIte,go_sem,Nat.reduceLT,Nat.reduceEqDiff,eq_self]⟩
  have h1f:((0:Int)=(zr:Int))=False:=eq_false (by omega)
  rw[if_neg h1]
  obtain⟨j1,hj1⟩:=dP b sk
  generalize dz b sk=x1 at*
  obtain⟨mn,r1,e1⟩:=x1
  simp only at v1 hj1
  subst hj1
  by_cases he1:e1≠0
  ·rw[if_pos he1]
   unfold sB Sg.cs
   simp only
   refine ag.bY (cs:=[.d (.v (.slice none 0 0)),iA e1]) ?_ (.cons .nil (.cons (.refl _) .nil))
   refine ag.aj (hint:=(fun _=>false)) Tryz.func20 (by kernel_rfl) rfl [4,5] (by kernel_rfl) (by decide) (by simp[Tryz.ntmps20]) ?_
   rw[Tryz.ntmps20]
   simp -implicitDefEqProofs only[↓reduceIte,go_sem,ah,Nat.reduceAdd,Nat.reduceLT,Nat.reduceLeDiff,Int.reduceLT,reduceCtorEq,eq_self,hG1]
   refine bP K.mixed (by kernel_rfl) ?_
   simp -implicitDefEqProofs only[↓reduceIte,go_sem,ah,Nat.reduceAdd,Nat.reduceLT,Nat.reduceLeDiff,Nat.reduceEqDiff,reduceCtorEq,eq_self,hG1,h1f]
   refine ab.ok (v1 _) ?_
   simp -implicitDefEqProofs only[↓reduceIte,go_sem,ak,Nat.reduceAdd,Nat.reduceLT,Nat.reduceLeDiff,Nat.reduceEqDiff,eq_self,hG1,he1]
   exact⟨_,ar.refl _ _,by simp -implicitDefEqProofs only[↓reduceIte,go_sem,Nat.reduceLT,Nat.reduceEqDiff,eq_self]⟩
  rw[if_neg he1]
  obtain rfl:e1=0:=by simpa using he1
  have v2:=fun H=>eE (List.drop j1 b) sk (by rw[List.length_drop];omega) (fun x hx=>hB x (List.mem_of_mem_drop hx)) H
  generalize dz (List.drop j1 b) sk=x2 at*
  obtain⟨mx,r2,e2⟩:=x2
  simp only at v2
  by_cases he2:e2≠0
  ·rw[if_pos he2]
   unfold sB Sg.cs
   simp only
   refine ag.bY (cs:=[.d (.v (.slice none 0 0)),iA e2]) ?_ (.cons .nil (.cons (.refl _) .nil))
   refine ag.aj (hint:=(fun _=>false)) Tryz.func20 (by kernel_rfl) rfl [4,5] (by kernel_rfl) (by decide) (by simp[Tryz.ntmps20]) ?_
   rw[Tryz.ntmps20]
   simp -implicitDefEqProofs only[↓reduceIte,go_sem,ah,Nat.reduceAdd,Nat.reduceLT,Nat.reduceLeDiff,Int.reduceLT,reduceCtorEq,eq_self,hG1]
   refine bP K.mixed (by kernel_rfl) ?_
   simp -implicitDefEqProofs only[↓reduceIte,go_sem,ah,Nat.reduceAdd,Nat.reduceLT,Nat.reduceLeDiff,Nat.reduceEqDiff,reduceCtorEq,eq_self,hG1,h1f]
   refine ab.ok (v1 _) ?_
   simp -implicitDefEqProofs only[↓reduceIte,go_sem,ah,ak,Nat.reduceAdd,Nat.reduceLT,Nat.reduceLeDiff,Nat.reduceEqDiff,reduceCtorEq,eq_self,hG1,s1]
   refine ab.ok (v2 _) ?_
   simp -implicitDefEqProofs only[↓reduceIte,go_sem,ak,Nat.reduceAdd,Nat.reduceLT,Nat.reduceLeDiff,Nat.reduceEqDiff,eq_self,s1,s2,he2]
   exact⟨_,ar.refl _ _,by simp -implicitDefEqProofs only[↓reduceIte,go_sem,Nat.reduceLT,Nat.reduceEqDiff,eq_self]⟩
  rw[if_neg he2]
  obtain rfl:e2=0:=by simpa using he2
  unfold sB Sg.cs
  simp only
  refine ag.aj (hint:=(fun _=>false)) Tryz.func20 (by kernel_rfl) rfl [4,5] (by kernel_rfl) (by decide) (by simp[Tryz.ntmps20]) ?_
  rw[Tryz.ntmps20]
  simp -implicitDefEqProofs only[↓reduceIte,go_sem,ah,Nat.reduceAdd,Nat.reduceLT,Nat.reduceLeDiff,Int.reduceLT,reduceCtorEq,eq_self,hG1]
  refine bP K.mixed (by kernel_rfl) ?_
  simp -implicitDefEqProofs only[↓reduceIte,go_sem,ah,Nat.reduceAdd,Nat.reduceLT,Nat.reduceLeDiff,Nat.reduceEqDiff,reduceCtorEq,eq_self,hG1,h1f]
  refine ab.ok (v1 _) ?_
  simp -implicitDefEqProofs only[↓reduceIte,go_sem,ah,ak,Nat.reduceAdd,Nat.reduceLT,Nat.reduceLeDiff,Nat.reduceEqDiff,reduceCtorEq,eq_self,hG1,s1]
  refine ab.ok (v2 _) ?_
  simp -implicitDefEqProofs only[↓reduceIte,go_sem,ak,Nat.reduceAdd,Nat.reduceLT,Nat.reduceLeDiff,Nat.reduceEqDiff,eq_self,s1,s2]
  exact⟨_,ar.refl _ _,by simp -implicitDefEqProofs only[↓reduceIte,go_sem,Nat.reduceLT,Nat.reduceEqDiff,eq_self]⟩
 rw[if_neg h0]
 have h0t:((0:Int)<(zn:Int))=True:=eq_true (by omega)
 have w1:IntKind.i64.wrap ((zr:Int)+8)=(zr:Int)+8:=wrap64_in _ (by omega) (by omega)
 have w2:IntKind.i64.wrap ((zr:Int)+8-1)=((zr+7:Nat):Int):=by rw[wrap64_in _ (by omega) (by omega)];omega
 have w3:IntKind.i64.wrap (((zr+7:Nat):Int).tdiv 8)=(((zr+7)/8:Nat):Int):=by
  rw[show((zr+7:Nat):Int).tdiv 8=(((zr+7)/8:Nat):Int)from rfl]
  exact wrap64_in _ (by omega) (by omega)
 obtain⟨y,hy⟩:∃y,y=zr+7:=⟨_,rfl⟩
 obtain⟨n,hn⟩:∃n,n=(zr+7)/8:=⟨_,rfl⟩
 rw[←hn,←hy]at w3
 rw[←hy]at w2
 rw[←hn]
 by_cases h1:b.length<n
 ·rw[if_pos h1]
  unfold sB Sg.cs
  simp only
  have hsame:G.set id (.box 30 12 0 1 [iA sk,iA sc,iA zr,iA zn,iA zmn.kind,iA zmn.i,sA zmn.s,iA zmx.kind,iA zmx.i,sA zmx.s,.d (.list false (cr ns)),.d (.list false (aG bd))])=G:=by
   obtain⟨hl,hx⟩:=List.getElem?_eq_some_iff.1 hG
   rw[←hx];exact List.set_getElem_self hl
  rw[hsame]
  refine ag.bY (cs:=[.d (.v (.slice none 0 0)),iA 3]) ?_ (.cons .nil (.cons (.refl _) .nil))
  refine ag.aj (hint:=(fun _=>false)) Tryz.func20 (by kernel_rfl) rfl [4,5] (by kernel_rfl) (by decide) (by simp[Tryz.ntmps20]) ?_
  rw[Tryz.ntmps20]
  simp -implicitDefEqProofs only[↓reduceIte,go_sem,ah,Nat.reduceAdd,Nat.reduceLT,Nat.reduceLeDiff,Nat.reduceEqDiff,Int.reduceEq,reduceCtorEq,eq_self,hG,h0t,w1,w2,w3,al,show((b.length:Int)<(n:Int))=True from eq_true (by omega)]
  exact⟨_,ar.refl _ _,by simp -implicitDefEqProofs only[↓reduceIte,go_sem,Nat.reduceLT,Nat.reduceEqDiff,eq_self]⟩
 rw[if_neg h1]
 have h1f:((b.length:Int)<(n:Int))=False:=eq_false (by omega)
 have htk:List.take n (aG b)=aG (b.take n):=by unfold aG;rw[List.map_take]
 have hdk:List.drop n (aG b)=aG (b.drop n):=by unfold aG;rw[List.map_drop]
 have hof:=fun H=>DK (b.take n) zr (by rw[List.length_take];omega) (fun x hx=>hb x (List.mem_of_mem_take hx)) (by omega) H
 generalize bG (b.take n) zr 1=e at*
 generalize vT (b.take n) zr=L at*
 by_cases he:e≠0
 ·rw[if_pos he]
  rw[if_neg he]at hof
  unfold fy sB Sg.cs
  simp only
  refine ag.bY (cs:=[.d (.v (.slice none 0 0)),iA e]) ?_ (.cons .nil (.cons (.refl _) .nil))
  refine ag.aj (hint:=(fun _=>false)) Tryz.func20 (by kernel_rfl) rfl [4,5] (by kernel_rfl) (by decide) (by simp[Tryz.ntmps20]) ?_
  rw[Tryz.ntmps20]
  simp -implicitDefEqProofs only[↓reduceIte,go_sem,ah,Nat.reduceAdd,Nat.reduceLT,Nat.reduceLeDiff,Nat.reduceEqDiff,Int.reduceEq,reduceCtorEq,eq_self,hG,h0t,w1,w2,w3,al,h1f]
  refine dr [some false,some false,some false,some false,some false,some false,some false,some false,some false,some true,some false,some false,some false,some true,some true,some true] 9 [] K.mixed (by kernel_rfl) (by kernel_rfl) (by kernel_rfl) (fun _ _ h=>by simp at h) ?_
  simp -implicitDefEqProofs only[↓reduceIte,go_sem,ah,Nat.reduceAdd,Nat.reduceLT,Nat.reduceLeDiff,Nat.reduceEqDiff,Int.reduceLE,Int.reduceToNat,reduceCtorEq,eq_self,hG,aS,al,htk]
  refine⟨by omega,?_⟩
  refine ab.ok (hof _) ?_
  simp -implicitDefEqProofs only[↓reduceIte,go_sem,ak,Nat.reduceAdd,Nat.reduceLT,Nat.reduceLeDiff,Nat.reduceEqDiff,eq_self,hG,Ext.nil,he]
  exact⟨_,ar.refl _ _,by simp -implicitDefEqProofs only[↓reduceIte,go_sem,Nat.reduceLT,Nat.reduceEqDiff,eq_self]⟩
 rw[if_neg he]
 obtain rfl:e=0:=by simpa using he
 rw[if_pos rfl]at hof
 unfold fy
 have z1:∀o:aA,(G.set id o)[id]?=some o:=fun o=>by rw[List.getElem?_set_self (ao hG)]
 obtain⟨G1,hGG⟩:∃G1,G.set id (.box 30 12 0 1 [iA sk,iA sc,iA zr,iA zn,iA zmn.kind,iA zmn.i,sA zmn.s,iA zmx.kind,iA zmx.i,sA zmx.s,.d (.list false (cr L)),.d (.list false (aG bd))])=G1:=⟨_,rfl⟩
 have hG1:G1[id]?=some (.box 30 12 0 1 [iA sk,iA sc,iA zr,iA zn,iA zmn.kind,iA zmn.i,sA zmn.s,iA zmx.kind,iA zmx.i,sA zmx.s,.d (.list false (cr L)),.d (.list false (aG bd))]):=by rw[←hGG];exact z1 _
 have hset:∀o:aA,G.set id o=G1.set id o:=fun o=>by rw[←hGG,List.set_set]
 rw[hset]
 have hbn:(n:Int)≤(b.length:Int):=by omega
 have htb:List.take b.length (aG b)=aG b:=List.take_of_length_le (Nat.le_of_eq (al b))
 have hB:∀c∈b.drop n,c<256:=fun c hc=>hb c (List.mem_of_mem_drop hc)
 have hbdl:(b.drop n).length≤b.length:=by rw[List.length_drop];omega
 generalize hbd:b.drop n=b2 at*
 have s1:∀o:aA,(G1.set id o)[id]?=some o:=fun o=>by rw[List.getElem?_set_self (ao hG1)]
 have s2:∀o o':aA,(G1.set id o).set id o'=G1.set id o':=fun o o'=>List.set_set ..
 have v1:=fun H=>eE b2 sk (by omega) hB H
 unfold jK
 simp only
 by_cases hz1:zn=zr
 ·have hzt:((zn:Int)=(zr:Int))=True:=eq_true (by omega)
  have hsame:G1.set id (.box 30 12 0 1 [iA sk,iA sc,iA zr,iA zn,iA zmn.kind,iA zmn.i,sA zmn.s,iA zmx.kind,iA zmx.i,sA zmx.s,.d (.list false (cr L)),.d (.list false (aG bd))])=G1:=by
   obtain⟨hl,hx⟩:=List.getElem?_eq_some_iff.1 hG1
   rw[←hx];exact List.set_getElem_self hl
  rw[if_pos hz1]
  unfold sB Sg.cs
  simp only
  rw[hsame]
  refine ag.aj (hint:=(fun _=>false)) Tryz.func20 (by kernel_rfl) rfl [4,5] (by kernel_rfl) (by decide) (by simp[Tryz.ntmps20]) ?_
  rw[Tryz.ntmps20]
  simp -implicitDefEqProofs only[↓reduceIte,go_sem,ah,Nat.reduceAdd,Nat.reduceLT,Nat.reduceLeDiff,Nat.reduceEqDiff,Int.reduceEq,reduceCtorEq,eq_self,hG,h0t,w1,w2,w3,al,h1f]
  refine dr [some false,some false,some false,some false,some false,some false,some false,some false,some false,some true,some false,some false,some false,some true,some true,some true] 9 [] K.mixed (by kernel_rfl) (by kernel_rfl) (by kernel_rfl) (fun _ _ h=>by simp at h) ?_
  simp -implicitDefEqProofs only[↓reduceIte,go_sem,ah,Nat.reduceAdd,Nat.reduceLT,Nat.reduceLeDiff,Nat.reduceEqDiff,Int.reduceLE,Int.reduceToNat,reduceCtorEq,eq_self,hG,aS,al,htk]
  refine⟨by omega,?_⟩
  refine ab.ok (hof _) ?_
  simp -implicitDefEqProofs only[↓reduceIte,go_sem,ak,Nat.reduceAdd,Nat.reduceLT,Nat.reduceLeDiff,Nat.reduceEqDiff,eq_self,hG,Ext.nil,hbn,htb,hdk,al,aS]
  rw[hGG]
  simp -implicitDefEqProofs only[go_sem]
  refine bP K.mixed (by kernel_rfl) ?_
  simp -implicitDefEqProofs only[↓reduceIte,go_sem,ah,Nat.reduceAdd,Nat.reduceLT,Nat.reduceLeDiff,Nat.reduceEqDiff,reduceCtorEq,eq_self,hG1,hzt]
  exact⟨_,ar.refl _ _,by simp -implicitDefEqProofs only[↓reduceIte,go_sem,Nat.reduceLT,Nat.reduceEqDiff,eq_self]⟩
 have hzf:((zn:Int)=(zr:Int))=False:=eq_false (by omega)
 rw[if_neg hz1]
 obtain⟨j1,hj1⟩:=dP b2 sk
 generalize dz b2 sk=x1 at*
 obtain⟨mn,r1,e1⟩:=x1
 simp only at v1 hj1
 subst hj1
 by_cases he1:e1≠0
 ·rw[if_pos he1]
  unfold sB Sg.cs
  simp only
  refine ag.bY (cs:=[.d (.v (.slice none 0 0)),iA e1]) ?_ (.cons .nil (.cons (.refl _) .nil))
  refine ag.aj (hint:=(fun _=>false)) Tryz.func20 (by kernel_rfl) rfl [4,5] (by kernel_rfl) (by decide) (by simp[Tryz.ntmps20]) ?_
  rw[Tryz.ntmps20]
  simp -implicitDefEqProofs only[↓reduceIte,go_sem,ah,Nat.reduceAdd,Nat.reduceLT,Nat.reduceLeDiff,Nat.reduceEqDiff,Int.reduceEq,reduceCtorEq,eq_self,hG,h0t,w1,w2,w3,al,h1f]
  refine dr [some false,some false,some false,some false,some false,some false,some false,some false,some false,some true,some false,some false,some false,some true,some true,some true] 9 [] K.mixed (by kernel_rfl) (by kernel_rfl) (by kernel_rfl) (fun _ _ h=>by simp at h) ?_
  simp -implicitDefEqProofs only[↓reduceIte,go_sem,ah,Nat.reduceAdd,Nat.reduceLT,Nat.reduceLeDiff,Nat.reduceEqDiff,Int.reduceLE,Int.reduceToNat,reduceCtorEq,eq_self,hG,aS,al,htk]
  refine⟨by omega,?_⟩
  refine ab.ok (hof _) ?_
  simp -implicitDefEqProofs only[↓reduceIte,go_sem,ak,Nat.reduceAdd,Nat.reduceLT,Nat.reduceLeDiff,Nat.reduceEqDiff,eq_self,hG,Ext.nil,hbn,htb,hdk,al,aS]
  rw[hGG]
  simp -implicitDefEqProofs only[go_sem]
  refine bP K.mixed (by kernel_rfl) ?_
  simp -implicitDefEqProofs only[↓reduceIte,go_sem,ah,Nat.reduceAdd,Nat.reduceLT,Nat.reduceLeDiff,Nat.reduceEqDiff,reduceCtorEq,eq_self,hG1,hzf]
  refine ab.ok (v1 _) ?_
  simp -implicitDefEqProofs only[↓reduceIte,go_sem,ak,Nat.reduceAdd,Nat.reduceLT,Nat.reduceLeDiff,Nat.reduceEqDiff,eq_self,hG1,he1]
  exact⟨_,ar.refl _ _,by simp -implicitDefEqProofs only[↓reduceIte,go_sem,Nat.reduceLT,Nat.reduceEqDiff,eq_self]⟩
 rw[if_neg he1]
 obtain rfl:e1=0:=by simpa using he1
 have v2:=fun H=>eE (List.drop j1 b2) sk (by rw[List.length_drop];omega) (fun x hx=>hB x (List.mem_of_mem_drop hx)) H
 generalize dz (List.drop j1 b2) sk=x2 at*
 obtain⟨mx,r2,e2⟩:=x2
 simp only at v2
 by_cases he2:e2≠0
 ·rw[if_pos he2]
  unfold sB Sg.cs
  simp only
  refine ag.bY (cs:=[.d (.v (.slice none 0 0)),iA e2]) ?_ (.cons .nil (.cons (.refl _) .nil))
  refine ag.aj (hint:=(fun _=>false)) Tryz.func20 (by kernel_rfl) rfl [4,5] (by kernel_rfl) (by decide) (by simp[Tryz.ntmps20]) ?_
  rw[Tryz.ntmps20]
  simp -implicitDefEqProofs only[↓reduceIte,go_sem,ah,Nat.reduceAdd,Nat.reduceLT,Nat.reduceLeDiff,Nat.reduceEqDiff,Int.reduceEq,reduceCtorEq,eq_self,hG,h0t,w1,w2,w3,al,h1f]
  refine dr [some false,some false,some false,some false,some false,some false,some false,some false,some false,some true,some false,some false,some false,some true,some true,some true] 9 [] K.mixed (by kernel_rfl) (by kernel_rfl) (by kernel_rfl) (fun _ _ h=>by simp at h) ?_
  simp -implicitDefEqProofs only[↓reduceIte,go_sem,ah,Nat.reduceAdd,Nat.reduceLT,Nat.reduceLeDiff,Nat.reduceEqDiff,Int.reduceLE,Int.reduceToNat,reduceCtorEq,eq_self,hG,aS,al,htk]
  refine⟨by omega,?_⟩
  refine ab.ok (hof _) ?_
  simp -implicitDefEqProofs only[↓reduceIte,go_sem,ak,Nat.reduceAdd,Nat.reduceLT,Nat.reduceLeDiff,Nat.reduceEqDiff,eq_self,hG,Ext.nil,hbn,htb,hdk,al,aS]
  rw[hGG]
  simp -implicitDefEqProofs only[go_sem]
  refine bP K.mixed (by kernel_rfl) ?_
  simp -implicitDefEqProofs only[↓reduceIte,go_sem,ah,Nat.reduceAdd,Nat.reduceLT,Nat.reduceLeDiff,Nat.reduceEqDiff,reduceCtorEq,eq_self,hG1,hzf]
  refine ab.ok (v1 _) ?_
  simp -implicitDefEqProofs only[↓reduceIte,go_sem,ah,ak,Nat.reduceAdd,Nat.reduceLT,Nat.reduceLeDiff,Nat.reduceEqDiff,reduceCtorEq,eq_self,hG1,s1]
  refine ab.ok (v2 _) ?_
  simp -implicitDefEqProofs only[↓reduceIte,go_sem,ak,Nat.reduceAdd,Nat.reduceLT,Nat.reduceLeDiff,Nat.reduceEqDiff,eq_self,s1,s2,he2]
  exact⟨_,ar.refl _ _,by simp -implicitDefEqProofs only[↓reduceIte,go_sem,Nat.reduceLT,Nat.reduceEqDiff,eq_self]⟩
 rw[if_neg he2]
 obtain rfl:e2=0:=by simpa using he2
 unfold sB Sg.cs
 simp only
 refine ag.aj (hint:=(fun _=>false)) Tryz.func20 (by kernel_rfl) rfl [4,5] (by kernel_rfl) (by decide) (by simp[Tryz.ntmps20]) ?_
 rw[Tryz.ntmps20]
 simp -implicitDefEqProofs only[↓reduceIte,go_sem,ah,Nat.reduceAdd,Nat.reduceLT,Nat.reduceLeDiff,Nat.reduceEqDiff,Int.reduceEq,reduceCtorEq,eq_self,hG,h0t,w1,w2,w3,al,h1f]
 refine dr [some false,some false,some false,some false,some false,some false,some false,some false,some false,some true,some false,some false,some false,some true,some true,some true] 9 [] K.mixed (by kernel_rfl) (by kernel_rfl) (by kernel_rfl) (fun _ _ h=>by simp at h) ?_
 simp -implicitDefEqProofs only[↓reduceIte,go_sem,ah,Nat.reduceAdd,Nat.reduceLT,Nat.reduceLeDiff,Nat.reduceEqDiff,Int.reduceLE,Int.reduceToNat,reduceCtorEq,eq_self,hG,aS,al,htk]
 refine⟨by omega,?_⟩
 refine ab.ok (hof _) ?_
 simp -implicitDefEqProofs only[↓reduceIte,go_sem,ak,Nat.reduceAdd,Nat.reduceLT,Nat.reduceLeDiff,Nat.reduceEqDiff,eq_self,hG,Ext.nil,hbn,htb,hdk,al,aS]
 rw[hGG]
 simp -implicitDefEqProofs only[go_sem]
 refine bP K.mixed (by kernel_rfl) ?_
 simp -implicitDefEqProofs only[↓reduceIte,go_sem,ah,Nat.reduceAdd,Nat.reduceLT,Nat.reduceLeDiff,Nat.reduceEqDiff,reduceCtorEq,eq_self,hG1,hzf]
 refine ab.ok (v1 _) ?_
 simp -implicitDefEqProofs only[↓reduceIte,go_sem,ah,ak,Nat.reduceAdd,Nat.reduceLT,Nat.reduceLeDiff,Nat.reduceEqDiff,reduceCtorEq,eq_self,hG1,s1]
 refine ab.ok (v2 _) ?_
 simp -implicitDefEqProofs only[↓reduceIte,go_sem,ak,Nat.reduceAdd,Nat.reduceLT,Nat.reduceLeDiff,Nat.reduceEqDiff,eq_self,s1,s2]
 exact⟨_,ar.refl _ _,by simp -implicitDefEqProofs only[↓reduceIte,go_sem,Nat.reduceLT,Nat.reduceEqDiff,eq_self]⟩
theorem mM{P:Program}{w:World}{d c i:Nat}{e:TypeId}{xs ys:Array Value}{is:List Nat}{a b:Value}{q r:Bool}(ha:(part e xs (i* c)).run P w= .ok a w)(hb:(part e ys (i* c)).run P w= .ok b w)(he:(Op.equalIn d e a b).run P w= .ok q w)
  (hr:(Op.eqItems d e c xs ys is).run P w= .ok r w):(Op.eqItems d e c xs ys (i::is)).run P w= .ok (q&&r) w:=by
 simp only[Op.eqItems,Sem.run_bind,ha,hb,he,Result.andThen_ok]
 cases q
 ·simp
 ·simpa using hr
abbrev a4(a b c d:Int):Value:= .agg #[.int .u8 a,.int .u8 b,.int .u8 c,.int .u8 d]
theorem Et(w:World)(a b c d a' b' c' d':Int):(Op.eqItems 9999 5 1 #[.int .u8 a,.int .u8 b,.int .u8 c,.int .u8 d] #[.int .u8 a',.int .u8 b',.int .u8 c',.int .u8 d'] [0,1,2,3]).run Tryz.prog w= .ok ((a==a')&&((b==b')&&((c==c')&&((d==d')&&true)))) w:=by
 have st:=fun x y=>run_equalIn_int w 9998 5 .u8 .u8 x y (UK.get K.J4)
 exact mM (dE K.tD rfl) (dE K.tD rfl) (st a a') (mM (dE K.tD rfl) (dE K.tD rfl) (st b b')
  (mM (dE K.tD rfl) (dE K.tD rfl) (st c c') (mM (dE K.tD rfl) (dE K.tD rfl) (st d d') rfl)))
theorem EF(w:World)(a b c d a' b' c' d':Int):(Op.equalIn 10000 83 (a4 a b c d) (a4 a' b' c' d')).run Tryz.prog w= .ok ((a==a')&&((b==b')&&((c==c')&&((d==d')&&true)))) w:=by
 obtain⟨i,hi⟩:=info_of_underlying (P:=Tryz.prog) (UK.get K.J4)
 rw[run_equalIn_array w 9999 _ _ (t:=83) (e:=5) (n:=4) (by kernel_rfl) hi,show(Tryz.prog).cellsOf 5=1 from by kernel_rfl]
 exact Et w a b c d a' b' c' d'
theorem E3(a b c d a' b' c' d':Int):bX Tryz.prog .neq 83 (a4 a b c d) (a4 a' b' c' d') (.bool !((a==a')&&((b==b')&&((c==c')&&((d==d')&&true))))):=by
 refine fun x y w=>?_
 rw[Sem.run_bind,run_eqGuard_agg _ _ _ _ _ _ _ (by kernel_rfl)]
 simp only[Result.andThen_ok,run_neq_struct]
 rw[EF]
 rfl
theorem v8(a b c d a' b' c' d':Nat)(K:Value→Prop):cF Tryz.prog .neq 83 (.agg #[.int .u8 a,.int .u8 b,.int .u8 c,.int .u8 d]) (.agg #[.int .u8 a',.int .u8 b',.int .u8 c',.int .u8 d']) K=K (.bool (decide ([a,b,c,d]≠[a',b',c',d']))):=by
 have e:(!(((a:Int)==a')&&(((b:Int)==b')&&(((c:Int)==c')&&(((d:Int)==d')&&true)))))=decide ([a,b,c,d]≠[a',b',c',d']):=by
  rw[Bool.eq_iff_iff]
  simp[Int.natCast_inj]
 rw[←e]
 exact wz (E3 a b c d a' b' c' d') K
def oq(b:List Nat):List Nat:=(b.drop (aJ b).2.1).take (aJ b).1
def o9(b:List Nat):List Nat:=b.drop ((aJ b).2.1+(aJ b).1)
def dk(b:List Nat)(most:Nat):List Nat×List Nat×Int:=
 if(aJ b).2.2≠0 then([],[],(aJ b).2.2)
 else if most<(aJ b).1 then([],[],2)
 else if b.length-(aJ b).2.1<(aJ b).1+4 then([],[],3)
 else if cb (eO (oq b))≠(o9 b).take 4 then([],[],5)
 else(oq b,(o9 b).drop 4,0)
theorem Cd(b:List Nat)(nn:Bool)(most:Nat)(hm:most≤1048576)(hb:∀c∈b,c<256)(hl:b.length≤140737488351232)(H:aa):
  ag Tryz.prog 18 [.d (.list nn (aG b)),iA most] H (.ok (.bf [.d (.list false (aG (dk b most).1)),.d (.list false (aG (dk b most).2.1)),iA (dk b most).2.2])) H:=by
 have hg:=fun H=>iW b nn (by omega) hb H
 have hle:=jw b
 unfold dk oq o9
 generalize aJ b=g at*
 obtain⟨n,k,e⟩:=g
 simp only at hg hle⊢
 have wm:IntKind.u64.wrap (most:Int)=(most:Int):=aU _ (by omega)
 have mneg:((most:Int)<0)=False:=eq_false (by omega)
 by_cases he:e≠0
 ·rw[if_pos he]
  refine ag.bY (cs:=[.d (.v (.slice none 0 0)),.d (.v (.slice none 0 0)),iA e]) ?_ (.cons .nil (.cons .nil (.cons (.refl _) .nil)))
  refine ag.aj (hint:=(fun _=>false)) Tryz.func18 (by kernel_rfl) rfl [4,5,6] (by kernel_rfl) (by decide) (by simp[Tryz.ntmps18]) ?_
  rw[Tryz.ntmps18]
  simp -implicitDefEqProofs only[↓reduceIte,go_sem,Nat.reduceLT,reduceCtorEq,eq_self]
  refine ab.ok (hg _) ?_
  simp -implicitDefEqProofs only[↓reduceIte,go_sem,Nat.reduceLT,Nat.reduceEqDiff,eq_self,he]
  refine aw.bq ?_
  simp -implicitDefEqProofs only[↓reduceIte,go_sem,Nat.reduceLT,Nat.reduceEqDiff,eq_self]
 rw[if_neg he]
 obtain rfl:e=0:=by simpa using he
 by_cases h1:most<n
 ·rw[if_pos h1]
  refine ag.bY (cs:=[.d (.v (.slice none 0 0)),.d (.v (.slice none 0 0)),iA 2]) ?_ (.cons .nil (.cons .nil (.cons (.refl _) .nil)))
  refine ag.aj (hint:=(fun _=>false)) Tryz.func18 (by kernel_rfl) rfl [4,5,6] (by kernel_rfl) (by decide) (by simp[Tryz.ntmps18]) ?_
  rw[Tryz.ntmps18]
  simp -implicitDefEqProofs only[↓reduceIte,go_sem,Nat.reduceLT,reduceCtorEq,eq_self]
  refine ab.ok (hg _) ?_
  simp -implicitDefEqProofs only[↓reduceIte,go_sem,Nat.reduceLT,Nat.reduceEqDiff,reduceCtorEq,eq_self,mneg,wm,show((most:Int)<(n:Int))=True from eq_true (by omega)]
  refine aw.bq ?_
  simp -implicitDefEqProofs only[↓reduceIte,go_sem,Nat.reduceLT,Nat.reduceEqDiff,eq_self]
 rw[if_neg h1]
 have h1f:((most:Int)<(n:Int))=False:=eq_false (by omega)
 have w1:IntKind.i64.wrap ((b.length:Int)-(k:Int))=((b.length-k:Nat):Int):=by rw[wrap64_in _ (by omega) (by omega)];omega
 have w2:IntKind.u64.wrap ((b.length-k:Nat):Int)=((b.length-k:Nat):Int):=aU _ (by omega)
 have w3:IntKind.u64.wrap ((n:Int)+4)=((n+4:Nat):Int):=by
  have:=aU (n+4) (by omega)
  rw[←this];rfl
 by_cases h2:b.length-k<n+4
 ·rw[if_pos h2]
  have h2t:(((b.length-k:Nat):Int)<(n:Int)+4)=True:=eq_true (by omega)
  refine ag.bY (cs:=[.d (.v (.slice none 0 0)),.d (.v (.slice none 0 0)),iA 3]) ?_ (.cons .nil (.cons .nil (.cons (.refl _) .nil)))
  refine ag.aj (hint:=(fun _=>false)) Tryz.func18 (by kernel_rfl) rfl [4,5,6] (by kernel_rfl) (by decide) (by simp[Tryz.ntmps18]) ?_
  rw[Tryz.ntmps18]
  simp -implicitDefEqProofs only[↓reduceIte,go_sem,Nat.reduceLT,reduceCtorEq,eq_self]
  refine ab.ok (hg _) ?_
  simp -implicitDefEqProofs only[↓reduceIte,go_sem,Nat.reduceLT,Nat.reduceEqDiff,reduceCtorEq,eq_self,mneg,wm,h1f,al,w1,w2,w3,h2t]
  refine aw.bq ?_
  simp -implicitDefEqProofs only[↓reduceIte,go_sem,Nat.reduceLT,Nat.reduceEqDiff,eq_self]
 rw[if_neg h2]
 have h2f:(((b.length-k:Nat):Int)<(n:Int)+4)=False:=eq_false (by omega)
 have w4:IntKind.i64.wrap (n:Int)=(n:Int):=wrap64_in _ (by omega) (by omega)
 have w5:IntKind.i64.wrap ((k:Int)+(n:Int))=((k+n:Nat):Int):=by rw[wrap64_in _ (by omega) (by omega)];omega
 obtain⟨q,hq⟩:∃q,q=k+n:=⟨_,rfl⟩
 rw[←hq]at w5
 rw[←hq]
 generalize hB:(b.drop k).take n=B at*
 generalize hR:b.drop q=R at*
 have hBl:B.length=n:=by rw[←hB,List.length_take,List.length_drop];omega
 have hRl:4≤R.length:=by rw[←hR,List.length_drop];omega
 have hRl2:R.length≤140737488351232:=by rw[←hR,List.length_drop];omega
 have hbB:∀c∈B,c<256:=fun c hc=>hb c (by rw[←hB]at hc;exact List.mem_of_mem_drop (List.mem_of_mem_take hc))
 have hcopy:bM (List.replicate n [D.v (.int .u8 0)]) 0 ((aG (b.drop k)).take (min (b.length-k) n))=aG B:=by
  have:((aG (b.drop k)).take (min (b.length-k) n))=aG B:=by
   rw[←hB]
   unfold aG
   rw[←List.map_take,show min (b.length-k) n=n by omega]
  rw[this]
  unfold bM
  rw[List.take_zero,List.nil_append,List.drop_eq_nil_of_le (by rw[List.length_replicate,al];omega),List.append_nil]
 have hsum:=fun H=>wE B false hbB (by omega) H
 have hcl:=tH B
 have hfo:=fun H=>ri (eO B) hcl H
 unfold eO at*
 obtain⟨y0,y1,y2,y3,hy⟩:∃y0 y1 y2 y3,cb (4294967295-qV B)=[y0,y1,y2,y3]:=⟨_,_,_,_,rfl⟩
 rw[hy]at hfo
 simp only[List.map_cons,List.map_nil,b8]at hfo
 rw[hy]
 obtain⟨x0,x1,x2,x3,R',hR4⟩:∃x0 x1 x2 x3 R',R=x0::x1::x2::x3::R':=by
  match R,hRl with
  |x0::x1::x2::x3::R',_=>exact⟨_,_,_,_,_,rfl⟩
  |[],h=>simp at h
  |[_],h=>simp at h
  |[_,_],h=>simp at h
  |[_,_,_],h=>simp at h
 have ht4:List.take 4 (aG R)=[D.v (.int .u8 (x0:Int)),.v (.int .u8 (x1:Int)),.v (.int .u8 (x2:Int)),.v (.int .u8 (x3:Int))].map fun d=>[d]:=by rw[hR4];rfl
 have hr4:R.take 4=[x0,x1,x2,x3]:=by rw[hR4];rfl
 have hd4:List.drop 4 (aG R)=aG (R.drop 4):=by unfold aG;rw[List.map_drop]
 rw[hr4]
 have hdk:List.drop k (aG b)=aG (b.drop k):=by unfold aG;rw[List.map_drop]
 have hdkn:List.drop q (aG b)=aG R:=by rw[←hR];unfold aG;rw[List.map_drop]
 have hdkl:(aG (b.drop k)).length=b.length-k:=by rw[al,List.length_drop]
 suffices h:ag Tryz.prog 18 [.d (.list nn (aG b)),iA most] H (.ok (if[y0,y1,y2,y3]≠[x0,x1,x2,x3]then .bf [.d (.v (.slice none 0 0)),.d (.v (.slice none 0 0)),iA 5]else .bf [.d (.list false (aG B)),.d (.list false (aG (R.drop 4))),iA 0])) H by
  by_cases h3:[y0,y1,y2,y3]≠[x0,x1,x2,x3]
  ·rw[if_pos h3]at h⊢
   exact ag.bY h (.cons .nil (.cons .nil (.cons (.refl _) .nil)))
  ·rw[if_neg h3]at h⊢
   exact h
 refine ag.aj (hint:=(fun t=>t==1000011)) Tryz.func18 (by kernel_rfl) rfl [4,5,6] (by kernel_rfl) (by decide) (by simp[Tryz.ntmps18]) ?_
 rw[Tryz.ntmps18]
 simp -implicitDefEqProofs only[↓reduceIte,go_sem,Nat.reduceAdd,Nat.reduceLT,Nat.reduceBEq,reduceCtorEq,eq_self]
 refine ab.ok (hg _) ?_
 simp -implicitDefEqProofs only[↓reduceIte,go_sem,Nat.reduceAdd,Nat.reduceLT,Nat.reduceEqDiff,Nat.reduceBEq,reduceCtorEq,eq_self,mneg,wm,h1f,al,w1,w2,w3,h2f,w4,w5,aS,List.take_of_length_le (Nat.le_of_eq (al b)),hdk,hdkn,hdkl,hcopy]
 refine⟨⟨by omega,by omega⟩,by omega,by omega,?_⟩
 refine⟨_,_,ar.drop H _ _,?_⟩
 simp -implicitDefEqProofs only[go_sem]
 refine dr [some true,some false,some true,some true,some false,none,some false,none] 0 H K.mixed (by kernel_rfl) (by kernel_rfl) (by kernel_rfl) (Ext.refl _) ?_
 simp -implicitDefEqProofs only[↓reduceIte,go_sem,Nat.reduceLT]
 refine ab.ok (o5 _) ?_
 simp -implicitDefEqProofs only[↓reduceIte,go_sem,Nat.reduceLT,Nat.reduceEqDiff,eq_self,List.take_of_length_le (show(aG B).length≤n by rw[al];omega)]
 refine ab.ok (hsum _) ?_
 simp -implicitDefEqProofs only[↓reduceIte,go_sem,Nat.reduceLT,eq_self]
 refine ab.ok (hfo _) ?_
 have hon:zl [[D.v (.int .u8 (x0:Int))],[.v (.int .u8 (x1:Int))],[.v (.int .u8 (x2:Int))],[.v (.int .u8 (x3:Int))]]=some [.v (.int .u8 (x0:Int)),.v (.int .u8 (x1:Int)),.v (.int .u8 (x2:Int)),.v (.int .u8 (x3:Int))]:=rfl
 simp -implicitDefEqProofs only[↓reduceIte,go_sem,Nat.reduceAdd,Nat.reduceLT,Nat.reduceEqDiff,Int.reduceLE,Int.reduceToNat,eq_self,aS,al,ht4,hon]
 refine⟨by omega,?_⟩
 simp -implicitDefEqProofs only[↓reduceIte,go_sem,Nat.reduceLT,eq_self,v8]
 by_cases h3:[y0,y1,y2,y3]=[x0,x1,x2,x3]
 ·rw[if_neg (by simpa using h3)]
  rw[show(decide ¬[y0,y1,y2,y3]=[x0,x1,x2,x3])=false from decide_eq_false fun h=>h h3]
  clear hR4 hr4 ht4
  have htR:List.take R.length (aG R)=aG R:=List.take_of_length_le (Nat.le_of_eq (al R))
  simp -implicitDefEqProofs only[↓reduceIte,go_sem,Nat.reduceAdd,Nat.reduceLT,Nat.reduceEqDiff,Nat.reduceBEq,Int.reduceLE,Int.reduceToNat,eq_self,al,aS,htR,hd4,List.length_drop]
  refine⟨by omega,by omega,by omega,?_⟩
  refine aw.ret ?_
  simp -implicitDefEqProofs only[↓reduceIte,go_sem,Nat.reduceLT,Nat.reduceEqDiff,eq_self,List.take_of_length_le (show(aG (R.drop 4)).length≤R.length-4 by rw[al,List.length_drop];omega),List.take_of_length_le (show(aG B).length≤n by rw[al];omega)]
 ·rw[if_pos h3]
  rw[show(decide ¬[y0,y1,y2,y3]=[x0,x1,x2,x3])=true from decide_eq_true h3]
  simp -implicitDefEqProofs only[↓reduceIte,go_sem,Nat.reduceLT]
  refine aw.bq ?_
  simp -implicitDefEqProofs only[↓reduceIte,go_sem,Nat.reduceLT,Nat.reduceEqDiff,eq_self]
def cg(s:Sg)(b:List Nat):Sg:=⟨s.kind,s.aX,s.aM,s.az,b⟩
theorem Fi(b x rest y y2 B1 B2:List Nat)(s1 s2 t:Sg)(L:List ai)(e0 e1 e2 e3 e4:Int)(H0:aa)
  (ho:∀H,ag Tryz.prog 18 [.d (.list false (aG b)),iA (1048576:Int)] H (.ok (.bf [.d (.list false (aG x)),.d (.list false (aG rest)),iA e0])) H)
  (hh:e0=0→∀H,ag Tryz.prog 19 [.d (.list false (aG x))] H (.ok (.bf [.agg s1.cs,.d (.list false (aG y)),iA e1])) H)
  (hz:e0=0→e1=0→∀(G:aa) (id:Nat),G[id]?=some (sB s1)→ag Tryz.prog 20 [.ptr id 0 0 0,.d (.list false (aG y))] G (.ok (.bf [.d (.list false (aG y2)),iA e2])) (G.set id (sB s2)))
  (hv:e0=0→e1=0→e2=0→∀H,ag Tryz.prog 21 [.agg (cg s2 y2).cs] H (.ok (.bf [.d (.list false (L.map ai.enc)),iA e3])) H)
  (hm:e0=0→e1=0→e2=0→e3=0→s2.aX≠0∧∀H,ag Tryz.prog 14 [.d (.list false (L.map ai.enc)),iA s2.kind,iA s2.aX] H (.ok (.bf [.agg t.cs,iA e4])) H)
  (hB:e0=0→e1=0→e2=0→e3=0→e4=0→b6 B1∧b6 B2∧(∀H,ag Tryz.prog 15 [.agg t.cs] H (.ok (.d (.list false (aG B1)))) H)∧∀H,ag Tryz.prog 22 [.d (.list false (aG x))] H (.ok (.d (.list false (aG B2)))) H):
  ag Tryz.prog 8 [.d (.list false (aG b))] H0 (.ok (if e0≠0 then .bf [.agg fK,.d (.v (.slice none 0 0)),iA e0]else if e1≠0 then .bf [.agg fK,.d (.v (.slice none 0 0)),iA e1]else if e2≠0 then .bf [.agg fK,.d (.v (.slice none 0 0)),iA e2]
   else if e3≠0 then .bf [.agg fK,.d (.v (.slice none 0 0)),iA 4]else if e4≠0∨B1≠B2 then .bf [.agg fK,.d (.v (.slice none 0 0)),iA 4]else .bf [.agg t.cs,.d (.list false (aG rest)),iA 0])) H0:=by
 refine ag.bL (hint:=fun _=>false) Tryz.func8 (by kernel_rfl) rfl [.cell 2 30,.tmp 3,.tmp 4] (by kernel_rfl) (by simp[Tryz.ntmps8]) ?_
 rw[Tryz.ntmps8]
 simp -implicitDefEqProofs only[↓reduceIte,go_sem,Nat.reduceLT,reduceCtorEq,eq_self]
 refine ab.ok (ho _) ?_
 by_cases h0:e0≠0
 ·rw[if_pos h0]
  simp -implicitDefEqProofs only[↓reduceIte,go_sem,ak,Nat.reduceAdd,Nat.reduceLT,Nat.reduceEqDiff,eq_self,h0]
  refine bp.ret ?_
  simp -implicitDefEqProofs only[↓reduceIte,go_sem,ah,Nat.reduceAdd,Nat.reduceLT,Nat.reduceLeDiff,Nat.reduceEqDiff,eq_self,aK,bH,fK,dA]
 rw[if_neg h0]
 obtain rfl:e0=0:=by simpa using h0
 simp -implicitDefEqProofs only[↓reduceIte,go_sem,Nat.reduceLT,Nat.reduceEqDiff,eq_self]
 refine ab.ok (hh rfl _) ?_
 unfold Sg.cs
 obtain⟨k1,w1,⟨zr1,zn1,zmn1,zmx1⟩,ns1,bd1⟩:=s1
 obtain⟨k2,w2,⟨zr2,zn2,zmn2,zmx2⟩,ns2,bd2⟩:=s2
 unfold sB cg Sg.cs at*
 by_cases h1:e1≠0
 ·rw[if_pos h1]
  simp -implicitDefEqProofs only[↓reduceIte,go_sem,ak,Nat.reduceAdd,Nat.reduceLT,Nat.reduceEqDiff,eq_self,h1]
  refine bp.ret ?_
  simp -implicitDefEqProofs only[↓reduceIte,go_sem,ah,Nat.reduceAdd,Nat.reduceLT,Nat.reduceLeDiff,Nat.reduceEqDiff,eq_self,aK,bH,fK,dA]
 rw[if_neg h1]
 obtain rfl:e1=0:=by simpa using h1
 simp -implicitDefEqProofs only[↓reduceIte,go_sem,ak,Nat.reduceAdd,Nat.reduceLT,Nat.reduceEqDiff,eq_self]
 refine ab.ok (hz rfl rfl _ _ (by simp -implicitDefEqProofs only[go_sem,eq_self])) ?_
 by_cases h2:e2≠0
 ·rw[if_pos h2]
  simp -implicitDefEqProofs only[↓reduceIte,go_sem,ak,Nat.reduceAdd,Nat.reduceLT,Nat.reduceEqDiff,eq_self,h2]
  refine bp.ret ?_
  simp -implicitDefEqProofs only[↓reduceIte,go_sem,ah,Nat.reduceAdd,Nat.reduceLT,Nat.reduceLeDiff,Nat.reduceEqDiff,eq_self,aK,bH,fK,dA]
 rw[if_neg h2]
 obtain rfl:e2=0:=by simpa using h2
 simp -implicitDefEqProofs only[↓reduceIte,go_sem,ah,ak,Nat.reduceAdd,Nat.reduceLT,Nat.reduceEqDiff,eq_self]
 refine ab.ok (hv rfl rfl rfl _) ?_
 by_cases h3:e3≠0
 ·rw[if_pos h3]
  simp -implicitDefEqProofs only[↓reduceIte,go_sem,ak,Nat.reduceAdd,Nat.reduceLT,Nat.reduceEqDiff,eq_self,h3]
  refine bp.ret ?_
  simp -implicitDefEqProofs only[↓reduceIte,go_sem,ah,Nat.reduceAdd,Nat.reduceLT,Nat.reduceLeDiff,Nat.reduceEqDiff,eq_self,aK,bH,fK,dA]
 rw[if_neg h3]
 obtain rfl:e3=0:=by simpa using h3
 obtain⟨hw0,hm⟩:=hm rfl rfl rfl rfl
 have hw0:(w2=0)=False:=eq_false hw0
 obtain⟨k4,w4,⟨zr4,zn4,zmn4,zmx4⟩,ns4,bd4⟩:=t
 simp -implicitDefEqProofs only[↓reduceIte,go_sem,ah,Nat.reduceAdd,Nat.reduceLT,Nat.reduceLeDiff,Nat.reduceEqDiff,eq_self]
 refine ab.ok (hm _) ?_
 by_cases h4:e4≠0
 ·rw[if_pos (.inl h4)]
  simp -implicitDefEqProofs only[↓reduceIte,go_sem,ak,Nat.reduceAdd,Nat.reduceLT,Nat.reduceEqDiff,eq_self]
  refine bP K.mixed (by kernel_rfl) ?_
  simp -implicitDefEqProofs only[↓reduceIte,go_sem,ak,Nat.reduceAdd,Nat.reduceLT,Nat.reduceEqDiff,eq_self,h4]
  refine bp.ret ?_
  simp -implicitDefEqProofs only[↓reduceIte,go_sem,ah,Nat.reduceAdd,Nat.reduceLT,Nat.reduceLeDiff,Nat.reduceEqDiff,eq_self,aK,bH,fK,dA]
 obtain rfl:e4=0:=by simpa using h4
 obtain⟨b1,b2,hBy,hk⟩:=hB rfl rfl rfl rfl rfl
 clear hB
 have hbe:=CN b1 b2
 by_cases hBB:B1≠B2
 ·rw[if_pos (.inr hBB)]
  simp -implicitDefEqProofs only[↓reduceIte,go_sem,ak,Nat.reduceAdd,Nat.reduceLT,Nat.reduceEqDiff,eq_self]
  refine bP K.mixed (by kernel_rfl) ?_
  simp -implicitDefEqProofs only[↓reduceIte,go_sem,ah,Nat.reduceAdd,Nat.reduceLT,Nat.reduceLeDiff,Nat.reduceEqDiff,reduceCtorEq,eq_self,hw0]
  refine ab.ok (hBy _) ?_
  simp -implicitDefEqProofs only[↓reduceIte,go_sem,Nat.reduceLT,Nat.reduceEqDiff,eq_self,dZ,mi]
  refine ab.ok (hk _) ?_
  simp -implicitDefEqProofs only[↓reduceIte,go_sem,ak,Nat.reduceAdd,Nat.reduceLT,Nat.reduceEqDiff,reduceCtorEq,eq_self,dZ,mi,hbe,hBB]
  refine bp.ret ?_
  simp -implicitDefEqProofs only[↓reduceIte,go_sem,ah,Nat.reduceAdd,Nat.reduceLT,Nat.reduceLeDiff,Nat.reduceEqDiff,eq_self,aK,bH,fK,dA]
 ·rw[if_neg (fun h=>h.elim (fun h=>h rfl) hBB)]
  obtain rfl:B1=B2:=by simpa using hBB
  simp -implicitDefEqProofs only[↓reduceIte,go_sem,ak,Nat.reduceAdd,Nat.reduceLT,Nat.reduceEqDiff,eq_self]
  refine bP K.mixed (by kernel_rfl) ?_
  simp -implicitDefEqProofs only[↓reduceIte,go_sem,ah,Nat.reduceAdd,Nat.reduceLT,Nat.reduceLeDiff,Nat.reduceEqDiff,reduceCtorEq,eq_self,hw0]
  refine ab.ok (hBy _) ?_
  simp -implicitDefEqProofs only[↓reduceIte,go_sem,Nat.reduceLT,Nat.reduceEqDiff,eq_self,dZ,mi]
  refine ab.ok (hk _) ?_
  simp -implicitDefEqProofs only[↓reduceIte,go_sem,ah,ak,Nat.reduceAdd,Nat.reduceLT,Nat.reduceEqDiff,reduceCtorEq,eq_self,dZ,mi,hbe]
  refine bp.ret ?_
  simp -implicitDefEqProofs only[↓reduceIte,go_sem,ah,Nat.reduceAdd,Nat.reduceLT,Nat.reduceLeDiff,Nat.reduceEqDiff,eq_self,aK,bH]
theorem BW{b:List Nat}(h:b6 b)(n:Nat):b6 (b.take n):=fun c hc=>h c (List.mem_of_mem_take hc)
theorem kh:b6 []:=fun c hc=>by cases hc
def lG(r b:List Nat):Prop:=r=[]∨∃j,r=b.drop j
theorem lG.byte{r b:List Nat}(h:lG r b)(hb:b6 b):b6 r:=by
 rcases h with rfl|⟨j,rfl⟩
 ·exact kh
 ·exact kP hb j
theorem lG.len{r b:List Nat}(h:lG r b):r.length≤b.length:=by
 rcases h with rfl|⟨j,rfl⟩
 ·simp
 ·rw[List.length_drop];omega
theorem lG.refl(b:List Nat):lG b b:= .inr ⟨0,rfl⟩
theorem lG.trans{r c b:List Nat}(h1:lG r c)(h2:lG c b):lG r b:=by
 rcases h1 with rfl|⟨j,rfl⟩
 ·exact .inl rfl
 ·rcases h2 with rfl|⟨i,rfl⟩
  ·exact .inl (by simp)
  ·exact .inr ⟨i+j,by rw[List.drop_drop]⟩
theorem D9{b:List Nat}(hb:b6 b)(m:Nat):b6 (dk b m).1∧(dk b m).1.length≤m∧lG (dk b m).2.1 b:=by
 unfold dk
 split
 ·exact⟨kh,by simp,.inl rfl⟩
 split
 ·exact⟨kh,by simp,.inl rfl⟩
 split
 ·exact⟨kh,by simp,.inl rfl⟩
 split
 ·exact⟨kh,by simp,.inl rfl⟩
 ·rename_i h _ _
  refine⟨BW (kP hb _) _,?_,.inr ⟨_,List.drop_drop⟩⟩
  simp only[oq,List.length_take]
  omega
theorem C9{b:List Nat}(h:(ev b).2.2=0):∃kn cn zr zn:Nat,(ev b).1=⟨(kn:Int),(cn:Int),⟨zr,zn,⟨0,0,dA⟩,⟨0,0,dA⟩⟩,[],[]⟩∧1≤kn∧kn≤3∧zr≤4096∧zn≤zr∧lG (ev b).2.1 b:=by
 unfold ev at*
 split at h
 ·rename_i he;exact absurd h he
 rename_i h1
 rw[if_neg h1]
 split at h
 ·simp at h
 rename_i h2
 rw[if_neg h2]
 have h2:dJ (eS 4 b []).1=true:=by simpa using h2
 unfold dJ at h2
 simp only[Bool.and_eq_true,decide_eq_true_eq]at h2
 obtain⟨j,hj⟩:=mE 4 b []
 refine⟨_,_,_,_,rfl,h2.1.1.1,h2.1.1.2,h2.1.2,h2.2,?_⟩
 rcases hj with hj|hj
 ·exact .inr ⟨j,hj⟩
 ·exact .inl hj
theorem wb(b:List Nat)(k:Int):lG (dz b k).2.1 b:= .inr (dP b k)
theorem uT(s:Sg)(b:List Nat):(jK s b).1.kind=s.kind∧(jK s b).1.aX=s.aX∧(jK s b).1.aM.rows=s.aM.rows∧(jK s b).1.az=s.az∧lG (jK s b).2.1 b:=by
 unfold jK
 split
 ·exact⟨rfl,rfl,rfl,rfl,.refl b⟩
 split
 ·exact⟨rfl,rfl,rfl,rfl,.inl rfl⟩
 split
 ·exact⟨rfl,rfl,rfl,rfl,.inl rfl⟩
 ·exact⟨rfl,rfl,rfl,rfl,(wb _ _).trans (wb _ _)⟩
theorem Db(s:Sg)(b:List Nat)(hs:s.az=[]):(eL s b).1.kind=s.kind∧(eL s b).1.aX=s.aX∧(eL s b).1.aM.rows=s.aM.rows∧(eL s b).1.az.length≤s.aM.rows∧lG (eL s b).2.1 b:=by
 unfold eL
 split
 ·obtain⟨h1,h2,h3,h4,h5⟩:=uT s b
  exact⟨h1,h2,h3,by rw[h4,hs];simp,h5⟩
 split
 ·exact⟨rfl,rfl,rfl,by rw[hs];simp,.inl rfl⟩
 split
 ·exact⟨rfl,rfl,rfl,by simp[fy],.inl rfl⟩
 ·obtain⟨h1,h2,h3,h4,h5⟩:=uT (fy s (vT (b.take ((s.aM.rows+7)/8)) s.aM.rows)) (b.drop ((s.aM.rows+7)/8))
  refine⟨h1,h2,h3,?_,h5.trans (.inr ⟨_,rfl⟩)⟩
  rw[h4]
  simp[fy,vT,bu]
theorem nc:∀{ns:List Bool} {l:List ai} {v:ai},v∈dR ns l→v=⟨0,0,dA⟩∨v∈l
 |[],l,v,h=>by simp[dR]at h
 |true::ns,l,v,h=>by
  rcases List.mem_cons.1 (by simpa[dR]using h)with h|h
  ·exact .inl h
  ·exact nc h
 |false::ns,[],v,h=>by simp[dR]at h
 |false::ns,w::l,v,h=>by
  rcases List.mem_cons.1 (by simpa[dR]using h)with h|h
  ·exact .inr (by simp[h])
  ·rcases nc h with h|h
   ·exact .inl h
   ·exact .inr (by simp[h])
theorem nK:∀(ns:List Bool) (l:List ai),(dR ns l).length≤ns.length
 |[],l=>by simp[dR]
 |true::ns,l=>by simp only[dR,List.length_cons];have:=nK ns l;omega
 |false::ns,[]=>by simp[dR]
 |false::ns,w::l=>by simp only[dR,List.length_cons];have:=nK ns l;omega
theorem DH{s:Sg}(hb:b6 s.body)(hn:s.az.length≤4096)(h:(dw s).2=0):1≤s.aX∧s.aX≤4∧(dw s).1.length≤4096∧∀v∈(dw s).1,dF v.i:=by
 have hlen:=wN s.body ((s.aM.rows:Int)-(aE s.az:Int)) s.kind s.aX hb
 have hgood:=fun l=>Ap (b:=s.body) (n:=(s.aM.rows:Int)-(aE s.az:Int)) (k:=s.kind) (w:=s.aX) (l:=l) hb
 unfold dw at*
 generalize fS s.body ((s.aM.rows:Int)-(aE s.az:Int)) s.kind s.aX=q at*
 obtain⟨l,e⟩:=q
 simp only at hlen h hgood⊢
 by_cases c:e≠0∨s.az=[]
 ·rw[if_pos c]at h⊢
  simp only at h
  subst h
  obtain⟨g1,g2,g3,g4⟩:=hgood l rfl
  exact⟨g3,g4,hlen,fun v hv=>(g2 v hv).2.2⟩
 ·rw[if_neg c]at h⊢
  obtain rfl:e=0:=by simpa using fun h=>c (.inl h)
  obtain⟨g1,g2,g3,g4⟩:=hgood l rfl
  refine⟨g3,g4,?_⟩
  unfold gA at h⊢
  split at h
  ·simp at h
  rename_i c1
  rw[if_neg c1]
  split at h
  ·simp at h
  rename_i c2
  rw[if_neg c2]
  refine⟨by have:=nK s.az l;simp only;omega,fun v hv=>?_⟩
  rcases nc hv with rfl|hv
  ·exact⟨by decide,by decide⟩
  ·exact(g2 v hv).2.2
noncomputable def jM(b:List Nat):Sg×List Nat×Int:=
 if(dk b 1048576).2.2≠0 then(Al,[],(dk b 1048576).2.2)
 else if(ev (dk b 1048576).1).2.2≠0 then(Al,[],(ev (dk b 1048576).1).2.2)
 else if(eL (ev (dk b 1048576).1).1 (ev (dk b 1048576).1).2.1).2.2≠0 then(Al,[],(eL (ev (dk b 1048576).1).1 (ev (dk b 1048576).1).2.1).2.2)
 else yN (dk b 1048576).1 (dk b 1048576).2.1 (cg (eL (ev (dk b 1048576).1).1 (ev (dk b 1048576).1).2.1).1 (eL (ev (dk b 1048576).1).1 (ev (dk b 1048576).1).2.1).2.1)
where yN (x rest:List Nat) (s:Sg):Sg×List Nat×Int:=
 if(dw s).2≠0 then(Al,[],4)
 else if(dL (dw s).1 s.kind s.aX).2≠0∨iG s.kind.toNat s.aX.toNat (dL (dw s).1 s.kind s.aX).1≠dj x then(Al,[],4)
 else((dL (dw s).1 s.kind s.aX).1,rest,0)
theorem rk{k c:Nat}{s:Sg}(h:b6 (cL k c s))(hl:(cL k c s).length≤20000000):b6 (iG k c s):=
 ((cV (by omega)).app h).app (mv _)
theorem qw(b:List Nat)(hb:b6 b)(hl:b.length≤140737488351232)(H:aa):
  ag Tryz.prog 8 [.d (.list false (aG b))] H (.ok (.bf [.agg (jM b).1.cs,.d (.list false (aG (jM b).2.1)),iA (jM b).2.2])) H:=by
 have ho:=fun H=>Cd b false 1048576 (by omega) hb hl H
 obtain⟨ox,oxl,ot⟩:=D9 hb 1048576
 have hbk:=fun H=>xB (dk b 1048576).1 false ox (by omega) H
 unfold jM
 generalize dk b 1048576=o at*
 obtain⟨x,rest,e0⟩:=o
 simp only at ho ox oxl ot hbk⊢
 have hh:=fun H=>BB x ox (by omega) H
 have hho:= @C9 x
 generalize ev x=h at*
 obtain⟨s1,y,e1⟩:=h
 simp only at hh hho⊢
 have hzo:=Db s1 y
 have hzz:e1=0→∀(G:aa) (id:Nat),G[id]?=some (sB s1)→ag Tryz.prog 20 [.ptr id 0 0 0,.d (.list false (aG y))] G (.ok (.bf [.d (.list false (aG (eL s1 y).2.1)),iA (eL s1 y).2.2])) (G.set id (sB (eL s1 y).1)):=by
  intro h1 G id hG
  obtain⟨kn,cn,zr,zn,rfl,g1,g2,g3,g4,g5⟩:=hho h1
  exact yS _ y (by simp only;omega) (g5.byte ox) (by have:=g5.len;omega) G id hG
 generalize eL s1 y=z at*
 obtain⟨s2,y2,e2⟩:=z
 simp only at hzo hzz⊢
 have hfact:e1=0→b6 y2∧y2.length≤1048576∧s2.aM.rows≤4096∧s2.az.length≤4096∧(∃kn:Nat,s2.kind=(kn:Int))∧∃cn:Nat,s2.aX=(cn:Int):=by
  intro h1
  obtain⟨kn,cn,zr,zn,rfl,g1,g2,g3,g4,g5⟩:=hho h1
  obtain⟨z1,z2,z3,z4,z5⟩:=hzo rfl
  simp only at z1 z2 z3 z4
  exact⟨z5.byte (g5.byte ox),by have:=z5.len;have:=g5.len;omega,by omega,by omega,⟨kn,z1⟩,cn,z2⟩
 have hv:e1=0→∀H,ag Tryz.prog 21 [.agg (cg s2 y2).cs] H (.ok (.bf [.d (.list false ((dw (cg s2 y2)).1.map ai.enc)),iA (dw (cg s2 y2)).2])) H:=by
  intro h1 H
  obtain⟨f1,f2,f3,f4,_,_⟩:=hfact h1
  exact BK (cg s2 y2) (by simp only[cg];omega) (by simp only[cg];omega) f1 (by simp only[cg];omega) H (by have:=wN (cg s2 y2).body (((cg s2 y2).aM.rows:Int)-(aE (cg s2 y2).az:Int)) (cg s2 y2).kind (cg s2 y2).aX f1;omega)
 have hvo:e1=0→(dw (cg s2 y2)).2=0→_:=fun h1=>DH (s:=cg s2 y2) (hfact h1).1 (hfact h1).2.2.2.1
 unfold jM.yN
 obtain⟨S,hS⟩:∃S,S=cg s2 y2:=⟨_,rfl⟩
 have hSk:S.kind=s2.kind:=by rw[hS];rfl
 have hSw:S.aX=s2.aX:=by rw[hS];rfl
 rw[←hS]at hv hvo⊢
 have hm:e1=0→(dw S).2=0→∀H,ag Tryz.prog 14 [.d (.list false ((dw S).1.map ai.enc)),iA S.kind,iA S.aX] H (.ok (.bf [.agg (dL (dw S).1 S.kind S.aX).1.cs,iA (dL (dw S).1 S.kind S.aX).2])) H:=by
  intro h1 h2 H
  obtain⟨_,_,g3,g4⟩:=hvo h1 h2
  exact na _ _ _ g4 (by omega) H
 have hB:e1=0→(dw S).2=0→(dL (dw S).1 S.kind S.aX).2=0→b6 (iG S.kind.toNat S.aX.toNat (dL (dw S).1 S.kind S.aX).1)∧b6 (dj x)∧(∀H,ag Tryz.prog 15 [.agg (dL (dw S).1 S.kind S.aX).1.cs] H (.ok (.d (.list false (aG (iG S.kind.toNat S.aX.toNat (dL (dw S).1 S.kind S.aX).1))))) H)∧∀H,ag Tryz.prog 22 [.d (.list false (aG x))] H (.ok (.d (.list false (aG (dj x))))) H:=by
  intro h1 h2 h3
  obtain⟨g1,_,g3,g4⟩:=hvo h1 h2
  obtain⟨kn,cn,m1,m2,m3,m4,m5,m6,m7,m8,m9⟩:=(nA h3).bytes g4
  have hw:bD (dw S).1 S.kind S.aX=S.aX:=if_neg (by omega)
  rw[hw]at m4
  rw[show S.kind.toNat=kn by omega,show S.aX.toNat=cn by omega]
  exact⟨rk m7 m8,((cV (by omega)).app ox).app (mv _),m9.1,hbk⟩
 generalize dw S=v at*
 obtain⟨L,e3⟩:=v
 simp only at hv hvo hm hB⊢
 generalize dL L S.kind S.aX=m at*
 obtain⟨t,e4⟩:=m
 simp only at hm hB⊢
 generalize iG S.kind.toNat S.aX.toNat t=B1 at*
 rw[hSk,hSw]at hm
 have h:=Fi b x rest y y2 B1 (dj x) s1 s2 t L e0 e1 e2 e3 e4 H ho (fun _=>hh) (fun _ h1=>hzz h1) (fun _ h1 _=>by rw[←hS];exact hv h1) (fun _ h1 _ h3=>⟨by have:=(hvo h1 h3).1;omega,hm h1 h3⟩) (fun _ h1 _ h3 h4=>hB h1 h3 h4)
 by_cases h0:e0≠0
 ·rw[if_pos h0]at h⊢
  exact ag.bY h (.cons fF (.cons .nil (.cons (.refl _) .nil)))
 rw[if_neg h0]at h⊢
 by_cases h1:e1≠0
 ·rw[if_pos h1]at h⊢
  exact ag.bY h (.cons fF (.cons .nil (.cons (.refl _) .nil)))
 rw[if_neg h1]at h⊢
 by_cases h2:e2≠0
 ·rw[if_pos h2]at h⊢
  exact ag.bY h (.cons fF (.cons .nil (.cons (.refl _) .nil)))
 rw[if_neg h2]at h⊢
 by_cases h3:e3≠0
 ·rw[if_pos h3]at h⊢
  exact ag.bY h (.cons fF (.cons .nil (.cons (.refl _) .nil)))
 rw[if_neg h3]at h⊢
 by_cases h4:e4≠0∨B1≠dj x
 ·rw[if_pos h4]at h⊢
  exact ag.bY h (.cons fF (.cons .nil (.cons (.refl _) .nil)))
 rw[if_neg h4]at h⊢
 exact h
def w9:ai:=⟨0,0,dA⟩
def gH(v:ai):ai:=if v.kind=0 then w9 else v
theorem lE(l:List ai):aE (bR l)+(aB l).length=l.length:=by
 induction l with
 |nil=>rfl
 |cons v l ih=>
  unfold aE bR aB at*
  by_cases h:v.kind=0
  ·simp[h]at*;omega
  ·simp[h]at*;omega
theorem x9(l:List ai):dR (bR l) (aB l)=l.map gH:=by
 induction l with
 |nil=>rfl
 |cons v l ih=>
  unfold bR aB gH at*
  by_cases h:v.kind=0
  ·simp[h,dR,w9]at*;exact ih
  ·simp[h,dR]at*;exact ih
theorem BI(l:List ai):aB (l.map gH)=aB l:=by
 induction l with
 |nil=>rfl
 |cons v l ih=>
  unfold aB gH at*
  by_cases h:v.kind=0
  ·simp[h,w9]at*;exact ih
  ·simp[h]at*;exact ih
theorem yk(l:List ai):bR (l.map gH)=bR l:=by
 unfold bR
 rw[List.map_map]
 apply List.map_congr_left
 intro v _
 by_cases h:v.kind=0<;>simp[gH,h,w9]
theorem BF(l:List ai):aZ (l.map gH)=aZ l:=by
 have:∀(m:List ai) (z:Zn),(m.map gH).foldl aI z=m.foldl aI z:=by
  intro m
  induction m with
  |nil=>intro z;rfl
  |cons v m ih=>
   intro z
   rw[List.map_cons,List.foldl_cons,List.foldl_cons,ih]
   congr 1
   by_cases h:v.kind=0
   ·simp[gH,h,w9,aI]
   ·simp[gH,h]
 unfold aZ
 rw[this,List.length_map]
theorem AW(l:List ai):aB (aB l)=aB l:=by simp[aB]
theorem vh{l:List ai}(h:(aB l).length=l.length):aB l=l:=List.Sublist.eq_of_length List.filter_sublist h
theorem CL{l:List ai}(h:(aB l).length=l.length):l.map gH=l:=by
 have e:=vh h
 have:∀v∈l,gH v=v:=fun v hv=>by
  rw[←e]at hv
  have:=(List.mem_filter.1 hv).2
  simp only[decide_eq_true_eq]at this
  simp[gH,this]
 rw[List.map_congr_left (g:=id) this,List.map_id]
structure Ends (m:List ai) (z:Zn):Prop where
 none:aB m=[]→z.mn=w9∧z.mx=w9
 some:aB m≠[]→z.mn∈aB m∧z.mx∈aB m
 all:∀v∈aB m,0≤aO v z.mn∧aO v z.mx≤0
theorem Ends.step{m:List ai}{z:Zn}(h:Ends m z)(v:ai):Ends (m++[v]) (aI z v):=by
 unfold aI
 by_cases hk:v.kind=0
 ·rw[if_pos hk]
  have e:aB (m++[v])=aB m:=by simp[aB,hk]
  exact⟨by rw[e];exact h.none,by rw[e];exact h.some,by rw[e];exact h.all⟩
 ·rw[if_neg hk]
  have e:aB (m++[v])=aB m++[v]:=by simp[aB,hk]
  have hne:aB (m++[v])≠[]:=by rw[e];simp
  have vv:=bg.self v
  by_cases hm:aB m=[]
  ·obtain⟨h1,h2⟩:=h.none hm
   have e1:dQ z v=⟨z.rows,z.az,v,v⟩:=by unfold dQ;rw[h1];rfl
   have e2:ec (dQ z v) v=⟨z.rows,z.az,v,v⟩:=by rw[e1];unfold ec;rw[if_neg (by simp only;omega)]
   have e3:fh (ec (dQ z v) v) v=⟨z.rows,z.az,v,v⟩:=by rw[e2];unfold fh;rw[if_neg (by simp only;omega)]
   rw[e3]
   refine⟨fun h=>absurd h hne,fun _=>⟨by rw[e,hm];simp,by rw[e,hm];simp⟩,fun u hu=>?_⟩
   rw[e,hm]at hu
   obtain rfl:u=v:=by simpa using hu
   simp only;omega
  ·obtain⟨h1,h2⟩:=h.some hm
   have hk1:z.mn.kind≠0:=by simpa using(List.mem_filter.1 h1).2
   have e1:dQ z v=z:=by unfold dQ;rw[if_neg hk1]
   rw[e1]
   have g2:(ec z v).mn∈aB (m++[v])∧(ec z v).mx=z.mx∧∀u∈aB (m++[v]),0≤aO u (ec z v).mn:=by
    unfold ec
    rw[e]
    by_cases c:aO v z.mn<0
    ·rw[if_pos c]
     refine⟨by simp,rfl,fun u hu=>?_⟩
     rcases List.mem_append.1 hu with hu|hu
     ·have a1:=(h.all u hu).1
      have a2:=bg.ff u z.mn
      have a3:=bg.ff u v
      have a4:=bg.ff v u
      have a5:=bg.cK v u z.mn c
      simp only
      omega
     ·obtain rfl:u=v:=by simpa using hu
      simp only;omega
    ·rw[if_neg c]
     refine⟨by simp[h1],rfl,fun u hu=>?_⟩
     rcases List.mem_append.1 hu with hu|hu
     ·exact(h.all u hu).1
     ·obtain rfl:u=v:=by simpa using hu
      omega
   obtain⟨b1,b2,b3⟩:=g2
   have mm:=bg.ff v z.mx
   have mm2:=bg.ff z.mx v
   unfold fh
   rw[b2]
   by_cases c:0<aO v z.mx
   ·rw[if_pos c]
    refine⟨fun h=>absurd h hne,fun _=>⟨b1,by rw[e];simp⟩,fun u hu=>⟨b3 u hu,?_⟩⟩
    rw[e]at hu
    rcases List.mem_append.1 hu with hu|hu
    ·have a1:=(h.all u hu).2
     exact bg.le_trans a1 (by show aO z.mx v≤0;omega)
    ·obtain rfl:u=v:=by simpa using hu
     simp only;omega
   ·rw[if_neg c]
    refine⟨fun h=>absurd h hne,fun _=>⟨b1,by rw[e,b2];simp[h2]⟩,fun u hu=>⟨b3 u hu,?_⟩⟩
    rw[b2]
    rw[e]at hu
    rcases List.mem_append.1 hu with hu|hu
    ·exact(h.all u hu).2
    ·obtain rfl:u=v:=by simpa using hu
     omega
theorem BX(l:List ai):Ends l (aZ l):=by
 have:∀(r m:List ai) (z:Zn),Ends m z→Ends (m++r) (r.foldl aI z):=by
  intro r
  induction r with
  |nil=>intro m z h;simpa using h
  |cons v r ih=>
   intro m z h
   have:=ih _ _ (h.step v)
   rwa[List.append_assoc]at this
 have h0:Ends [] ⟨l.length,0,⟨0,0,dA⟩,⟨0,0,dA⟩⟩:=⟨fun _=>⟨rfl,rfl⟩,fun h=>absurd rfl h,fun v hv=>by cases hv⟩
 simpa[aZ]using this l [] _ h0
theorem vQ{x:List Nat}(hx:x.length≤1048576)(more:List Nat):dk (dj x++more) 1048576=(x,more,0):=by
 have e:dj x++more=a9 x.length++(x++(cb (eO x)++more)):=by unfold dj;simp
 have hg:=fc x.length (by omega) (x++(cb (eO x)++more))
 have hB:oq (dj x++more)=x:=by
  unfold oq
  rw[e,hg]
  simp only
  rw[List.drop_left' rfl,List.take_left' rfl]
 have hR:o9 (dj x++more)=cb (eO x)++more:=by
  unfold o9
  rw[e,hg]
  simp only
  rw[←List.drop_drop,List.drop_left' rfl,List.drop_left' rfl]
 unfold dk
 rw[hB,hR,e,hg]
 simp only
 rw[if_neg (by simp),if_neg (by omega),if_neg (by simp[cb]),List.take_left' (by rfl),if_neg (by simp),List.drop_left' (by rfl)]
theorem A6(a b c d:Nat)(ha:a<1048576)(hb:b<1048576)(hc:c<1048576)(hd:d<1048576)(r:List Nat):eS 4 (a9 a++(a9 b++(a9 c++(a9 d++r)))) []=([a,b,c,d],r,0):=by
 have st:∀(f n:Nat) (r acc:List Nat),n<1048576→eS (f+1) (a9 n++r) acc=eS f r (acc++[n]):=by
  intro f n r acc hn
  have hg:=fc n (by omega) r
  show(if(aJ (a9 n++r)).2.2≠0 then _ else _)=_
  rw[hg]
  simp only
  rw[if_neg (by simp),List.drop_left' rfl,Nat.min_eq_left (by omega)]
 rw[st 3 a _ _ ha,st 2 b _ _ hb,st 1 c _ _ hc,st 0 d _ _ hd]
 rfl
theorem Dp(l:List Bool):dm (l.map fun b=>b.toNat) 1=l:=by
 induction l with
 |nil=>rfl
 |cons b l ih=>
  have e:dm ((b::l).map fun b=>b.toNat) 1=cN b.toNat 1++dm (l.map fun b=>b.toNat) 1:=rfl
  rw[e,ih]
  cases b<;>rfl
theorem Dw(l:List Bool):bG (bW l) l.length 1=0∧vT (bW l) l.length=l:=by
 have h:=kC (l.map fun b=>b.toNat) 1 (fun n hn=>by obtain⟨b,_,rfl⟩:=List.mem_map.1 hn;cases b<;>decide)
 unfold cI at h
 rw[Dp,List.length_map]at h
 refine⟨h.2,?_⟩
 unfold vT
 rw[h.1,List.map_map]
 have:∀b∈l,((fun x:Nat=>decide (x=1))∘fun b:Bool=>b.toNat) b=b:=fun b _=>by cases b<;>rfl
 rw[List.map_congr_left (g:=id) this,List.map_id]
theorem Cs{l:List ai}{k w:Int}{s:Sg}(hm:Made l k w s)(hok:∀v∈l,dF v.i):dw s=(l.map gH,0):=by
 have hcs:=lE l
 have hok2:∀v∈aB l,dF v.i:=fun v hv=>hok v (kf hv)
 have hg:=Ai hm.kY hm.zW hok2
 have hro:=fz l
 rw[hm.eq]
 unfold dw b5
 simp only
 by_cases c:(aB l).length=l.length
 ·rw[if_pos c]
  have e:((aZ l).rows:Int)-(aE []:Int)=((aB l).length:Int):=by rw[hro,c];simp[aE]
  rw[e,hg,if_pos (.inr rfl),CL c,vh c]
 ·rw[if_neg c]
  have e:((aZ l).rows:Int)-(aE (bR l):Int)=((aB l).length:Int):=by omega
  rw[e,hg]
  have hne:bR l≠[]:=by
   intro h
   have:=dU l
   rw[h]at this
   have h2:(aB l).length≤l.length:=List.length_filter_le _ _
   simp at this
   omega
  rw[if_neg (fun h=>h.elim (fun h=>h rfl) hne)]
  unfold gA
  have hnl:=dU l
  simp only
  rw[if_neg (by omega),AW,if_neg (by simp),x9]
theorem BC(l:List ai)(k w:Int):dL (l.map gH) k w=dL l k w:=by
 unfold dL b5 bD
 rw[BI,BF,yk,List.length_map]
theorem yJ{l:List ai}{k w:Int}{s:Sg}(hm:Made l k w s):dL l k (bD l k w)=(s,0):=by
 obtain⟨h1,h2,h3,h4⟩:=hm
 have hw:=(jm h3).1
 have e:bD l k (bD l k w)=bD l k w:=by
  generalize bD l k w=c at*
  exact if_neg (by omega)
 unfold dL
 rw[e,if_neg (by simpa using h1),if_neg (by omega),if_neg (by simpa using h3),h4]
theorem Ah{l:List ai}{k w:Int}{s:Sg}(hm:Made l k w s)(hok:∀v∈l,dF v.i)(c:Int)(r:List Nat):
  eL ⟨k,c,⟨(aZ l).rows,(aZ l).az,w9,w9⟩,[],[]⟩ (bW (b5 l)++(cS (aZ l).mn++(cS (aZ l).mx++r)))=(⟨k,c,aZ l,b5 l,[]⟩,r,0):=by
 have hcs:=lE l
 have hro:=fz l
 have hnu:=ij l
 have hE:=BX l
 have hkk:=((cf _ _).1 hm.kY).1
 have key:∀ns,jK ⟨k,c,⟨(aZ l).rows,(aZ l).az,w9,w9⟩,ns,[]⟩ (cS (aZ l).mn++(cS (aZ l).mx++r))=(⟨k,c,aZ l,ns,[]⟩,r,0):=by
  intro ns
  unfold jK
  simp only
  by_cases h:(aZ l).az=(aZ l).rows
  ·have hs:aB l=[]:=List.eq_nil_of_length_eq_zero (by omega)
   obtain⟨e1,e2⟩:=hE.none hs
   rw[if_pos h]
   have ez:aZ l=⟨(aZ l).rows,(aZ l).az,w9,w9⟩:=by
    generalize aZ l=z at*
    obtain⟨a,b,m1,m2⟩:=z
    simp only at e1 e2
    rw[e1,e2]
   have e0:cS w9=[]:=rfl
   rw[e1,e2,e0,←ez]
   rfl
  ·have hs:aB l≠[]:=fun hs=>by rw[hs]at hcs;simp at hcs;omega
   obtain⟨m1,m2⟩:=hE.some hs
   rw[if_neg h]
   have g1:=hm.Fz hok _ (kf m1) (by simpa using(List.mem_filter.1 m1).2)
   have g2:=hm.Fz hok _ (kf m2) (by simpa using(List.mem_filter.1 m2).2)
   have o1:=oN (v:=(aZ l).mn) (cS (aZ l).mx++r) g1.2.2 g1.1 (by rw[g1.2.1];exact hkk)
   have o2:=oN (v:=(aZ l).mx) r g2.2.2 g2.1 (by rw[g2.2.1];exact hkk)
   rw[g1.2.1]at o1
   rw[g2.2.1]at o2
   rw[o1]
   simp only
   rw[o2]
   simp
 unfold eL
 simp only
 by_cases h0:(aZ l).az=0
 ·have e:b5 l=[]:=if_pos (by omega)
  rw[if_pos h0,e]
  exact key []
 ·have e:b5 l=bR l:=if_neg (by omega)
  have hnl:=dU l
  obtain⟨n1,n2⟩:=Dw (bR l)
  have hpl:=cx (bR l)
  have hlen:(bW (bR l)).length=((aZ l).rows+7)/8:=by rw[hpl,hnl,hro]
  rw[if_neg h0,e,if_neg (by rw[List.length_append];omega),List.take_left' hlen,List.drop_left' hlen]
  rw[hnl,←hro]at n1 n2
  rw[n1,n2,if_neg (by simp)]
  exact key _
theorem vE{l:List ai}{k w:Int}{s:Sg}(hm:Made l k w s)(hok:∀v∈l,dF v.i){kn cn:Nat}(hk:k=(kn:Int))(hc:bD l k w=(cn:Int))(hl:(cL kn cn s).length≤1048576)(more:List Nat):jM (iG kn cn s++more)=(s,more,0):=by
 have hkk:=((cf _ _).1 hm.kY).1
 rw[fl]at hkk
 obtain⟨c1,c2,_⟩:=jm hm.zW
 have hcs:=lE l
 have hro:=fz l
 have hnu:=ij l
 have hl4:=hm.len
 have hz:=Ah hm hok (bD l k w) (bV (aB l) k (bD l k w)).1
 have hv:=Cs hm hok
 have hmk:=yJ hm
 have hx:cL kn cn s=a9 kn++(a9 cn++(a9 (aZ l).rows++(a9 (aZ l).az++(bW (b5 l)++(cS (aZ l).mn++(cS (aZ l).mx++(bV (aB l) k (bD l k w)).1)))))):=by
  rw[hm.eq]
  simp[cL,eR]
 have hnf:=A6 kn cn (aZ l).rows (aZ l).az (by omega) (by omega) (by omega) (by omega) (bW (b5 l)++(cS (aZ l).mn++(cS (aZ l).mx++(bV (aB l) k (bD l k w)).1)))
 rw[←hx]at hnf
 have hh:ev (cL kn cn s)=(⟨k,bD l k w,⟨(aZ l).rows,(aZ l).az,w9,w9⟩,[],[]⟩,bW (b5 l)++(cS (aZ l).mn++(cS (aZ l).mx++(bV (aB l) k (bD l k w)).1)),0):=by
  unfold ev
  rw[hnf]
  simp only
  have hho:dJ [kn,cn,(aZ l).rows,(aZ l).az]=true:=by
   simp only[dJ,List.getD_cons_zero,List.getD_cons_succ,Bool.and_eq_true,decide_eq_true_eq]
   omega
  rw[if_neg (by simp),hho,if_neg (by simp)]
  simp only[CS,List.getD_cons_zero,List.getD_cons_succ]
  rw[←hk,←hc]
  rfl
 unfold jM iG
 rw[vQ hl]
 simp only
 rw[if_neg (by simp),hh]
 simp only
 rw[if_neg (by simp),hz]
 simp only
 rw[if_neg (by simp)]
 have hs:cg ⟨k,bD l k w,aZ l,b5 l,[]⟩ (bV (aB l) k (bD l k w)).1=s:=by rw[hm.eq];rfl
 rw[hs]
 unfold jM.yN
 have hsk:s.kind=k:=by rw[hm.eq]
 have hsw:s.aX=bD l k w:=by rw[hm.eq]
 rw[hv]
 simp only
 rw[if_neg (by simp),hsk,hsw,BC,hmk]
 simp only
 rw[if_neg]
 rintro(h|h)
 ·exact h rfl
 ·apply h
  unfold iG
  rw[show k.toNat=kn by omega,show(bD l k w).toNat=cn by omega]
theorem Made.IY{l:List ai}{k w:Int}{s:Sg}(hm:Made l k w s)(hok:∀v∈l,dF v.i){kn cn:Nat}(hk:k=(kn:Int))(hc:bD l k w=(cn:Int)):(cL kn cn s).length≤2700+s.body.length:=by
 have hkk:=((cf _ _).1 hm.kY).1
 rw[fl]at hkk
 obtain⟨c1,c2,_⟩:=jm hm.zW
 have hz:tW (aZ l):=vM fun v hv hk=>⟨hok v hv,(hm.Fz hok v hv hk).1⟩
 have hnu:=ij l
 have hro:=fz l
 have hcl:=fj (bR l)
 have hnl:=dU l
 have hml:(b5 l).length≤4096:=by have:=hm.len;unfold b5;split;simp;omega
 have hl4:=hm.len
 have hlen1:=bn 10 kn (by omega)
 have hlen2:=bn 10 cn (by omega)
 have hlen3:=bn 10 (aZ l).rows (by omega)
 have hlen4:=bn 10 (aZ l).az (by omega)
 have hv1:=dx hz.1.1 hz.1.2
 have hv2:=dx hz.2.1 hz.2.2
 rw[hm.eq]
 unfold cL
 simp only[List.length_append,eR,List.flatMap_cons,List.flatMap_nil,List.length_nil,cx]
 omega
theorem u7(l:List ai)(k:Int):∀n:Nat,(∀c:Int,1≤c→c≤n→(bV l k c).2=0→0≤(dT l k n).1∧(dT l k n).1≤((bV l k c).1.length:Int))∧
  (0≤(dT l k n).1→(dT l k n).1=((bV l k (dT l k n).2).1.length:Int))
 |0=>⟨fun c h1 h2=>by omega,fun h=>by exact absurd (show(0:Int)≤-1 from h) (by omega)⟩
 |n+1=>by
  obtain⟨h1,h2⟩:=u7 l k n
  have hst:dT l k (n+1)=lq l k (dT l k n) ((n:Int)+1):=rfl
  rw[hst]
  generalize dT l k n=x at*
  unfold lq
  by_cases c:(bV l k ((n:Int)+1)).2=0∧(x.1<0∨((bV l k ((n:Int)+1)).1.length:Int)<x.1)
  ·rw[if_pos c]
   refine⟨fun d g1 g2 g3=>⟨by simp only;omega,?_⟩,fun _=>rfl⟩
   simp only
   by_cases hd:d=(n:Int)+1
   ·rw[hd];omega
   ·have:=h1 d g1 (by omega) g3
    omega
  ·rw[if_neg c]
   refine⟨fun d g1 g2 g3=>?_,h2⟩
   by_cases hd:d=(n:Int)+1
   ·subst hd
    have:=fun h=>c ⟨g3,h⟩
    omega
   ·exact h1 d g1 (by omega) g3
theorem yT{l:List ai}{k:Int}{s:Sg}(hm:Made l k 0 s){c:Int}(h1:1≤c)(h4:c≤4)(hc:(bV (aB l) k c).2=0):s.body.length≤(bV (aB l) k c).1.length:=by
 obtain⟨g1,g2⟩:=u7 (aB l) k 4
 obtain⟨g3,g4⟩:=g1 c h1 h4 hc
 have hw:bD l k 0=(dT (aB l) k 4).2:=if_pos rfl
 rw[hm.eq,hw]
 have:=g2 g3
 simp only
 omega
theorem DD(w:Nat):hZ w=w/2^^^(if w%2=1 then 3988292384 else 0):=by
 unfold hZ
 split<;>simp
theorem AQ(a b:Nat):hZ (a^^^b)=hZ a^^^hZ b:=by
 simp only[DD,Nat.xor_div_two,Nat.xor_mod_two_eq_one]
 apply Nat.eq_of_testBit_eq
 intro i
 by_cases h1:a%2=1<;>by_cases h2:b%2=1<;>simp[h1,h2,Nat.testBit_xor]
 all_goals cases(a/2).testBit i<;>cases(b/2).testBit i<;>cases(3988292384:Nat).testBit i<;>rfl
theorem jt(a b:Nat):∀k,ct (a^^^b) k=ct a k^^^ct b k
 |0=>rfl
 |k+1=>by simp only[ct,jt a b k,AQ]
theorem lT(w j:Nat):∀k,ct w (j+k)=ct (ct w j) k
 |0=>rfl
 |k+1=>by rw[←Nat.add_assoc];simp only[ct,lT w j k]
theorem lO(k:Nat):∀q,ct (q* 2^k) k=q:=by
 induction k with
 |zero=>intro q;simp[ct]
 |succ k ih=>
  intro q
  have e:q* 2^(k+1)=2* q* 2^k:=by rw[Nat.pow_succ,←Nat.mul_assoc,Nat.mul_right_comm,Nat.mul_comm 2 q]
  simp only[ct]
  rw[e,ih]
  unfold hZ
  rw[if_neg (by omega)]
  omega
theorem xg{w:Nat}(h:w<4294967296)(h0:hZ w=0):w=0:=by
 unfold hZ at h0
 split at h0
 ·have e:w/2=3988292384:=by
   have:=congrArg (·^^^3988292384) h0
   simpa[Nat.xor_assoc]using this
  omega
 ·omega
theorem od{w:Nat}(h:w<4294967296):∀k,ct w k=0→w=0
 |0,h0=>h0
 |k+1,h0=>od h k (xg (kG h k) h0)
theorem zA(a b k:Nat):(a^^^b)* 2^k=a* 2^k^^^b* 2^k:=by
 apply Nat.eq_of_testBit_eq
 intro i
 simp only[Nat.testBit_xor,Nat.testBit_mul_two_pow]
 cases decide (k≤i)<;>simp
theorem D6(x:Nat):x=x/256* 2^8^^^x%256:=by
 apply Nat.eq_of_testBit_eq
 intro i
 rw[Nat.testBit_xor,Nat.testBit_mul_two_pow,show(256:Nat)=2^8 from rfl,Nat.testBit_div_two_pow,Nat.testBit_mod_two_pow]
 by_cases h:8≤i
 ·simp[h,show ¬i<8 by omega,show i-8+8=i by omega]
 ·simp[h,show i<8 by omega]
def fP:List Nat→Nat
 |[]=>0
 |c::b=>c+256* fP b
theorem iU{c:Nat}(h:c<256)(b:List Nat):fP (c::b)=c^^^fP b* 2^8:=by
 have:=D6 (c+256* fP b)
 rw[show(c+256* fP b)/256=fP b by omega,show(c+256* fP b)%256=c by omega,Nat.xor_comm]at this
 exact this
theorem Ak(w:Nat){c:Nat}(h:c<256):w/256^^^jb ((w%256)^^^c)=ct (w^^^c) 8:=by
 have e:w^^^c=w/256* 2^8^^^((w%256)^^^c):=by
  conv=>lhs;rw[D6 w]
  rw[Nat.xor_assoc]
 rw[e,jt,lO]
 rfl
def pO(w:Nat)(b:List Nat):Nat:=b.foldl (fun w c=>w/256^^^jb ((w%256)^^^c)) w
theorem mo:∀(b:List Nat) (w:Nat),(∀c∈b,c<256)→pO w b=ct (w^^^fP b) (8* b.length)
 |[],w,_=>by simp[pO,fP,ct]
 |c::b,w,h=>by
  have hc:=h c (by simp)
  have ih:=mo b (ct (w^^^c) 8) fun x hx=>h x (by simp[hx])
  have e:pO w (c::b)=pO (ct (w^^^c) 8) b:=by
   unfold pO
   rw[List.foldl_cons,Ak w hc]
  rw[e,ih,iU hc,List.length_cons,show 8* (b.length+1)=8+8* b.length by omega,lT,←Nat.xor_assoc,jt (w^^^c),lO]
theorem BG{w:Nat}(h:w<4294967296):fP (cb w)=w:=by
 simp only[cb,fP]
 omega
theorem not_xor{w:Nat}(h:w<4294967296):4294967295-w=4294967295^^^w:=by
 apply Nat.eq_of_testBit_eq
 intro i
 have e:=Nat.testBit_two_pow_sub_succ (x:=w) (n:=32) (by omega) i
 have e2:(4294967295:Nat).testBit i=decide (i<32):=by
  have:=Nat.testBit_two_pow_sub_succ (x:=0) (n:=32) (by omega) i
  simpa using this
 rw[show 2^32-(w+1)=4294967295-w by omega]at e
 rw[e,Nat.testBit_xor,e2]
 by_cases h2:i<32
 ·simp[h2]
 ·have:w.testBit i=false:=Nat.testBit_lt_two_pow (Nat.lt_of_lt_of_le (show w<2^32 by omega) (Nat.pow_le_pow_right (by omega) (by omega)))
  simp[h2,this]
theorem sF:∀(b:List Nat),(∀c∈b,c<256)→fP b<2^(8* b.length)
 |[],_=>by simp[fP]
 |c::b,h=>by
  have h1:=h c (by simp)
  have h2:=sF b fun x hx=>h x (by simp[hx])
  rw[List.length_cons,show 8* (b.length+1)=8* b.length+8 by omega,Nat.pow_add]
  simp only[fP]
  generalize 2^(8* b.length)=q at*
  omega
theorem Du{X:List Nat}(hb:∀c∈X,c<256){n:Nat}(hl:X.length=n+4)(h:cb (eO (X.take n))=X.drop n):pO 4294967295 X=ct 4294967295 32:=by
 have e:X=X.take n++X.drop n:=(List.take_append_drop n X).symm
 have hd:(X.drop n).length=4:=by rw[List.length_drop];omega
 have hs:qV (X.take n)<4294967296:=by
  have h1:qV (X.take n)=pO 4294967295 (X.take n):=rfl
  rw[h1]
  have:∀(b:List Nat) (w:Nat),w<4294967296→(∀c∈b,c<256)→pO w b<4294967296:=by
   intro b
   induction b with
   |nil=>exact fun w h _=>h
   |cons c b ih=>
    intro w hw hb
    refine ih _ ?_ fun x hx=>hb x (by simp[hx])
    have:=hb c (by simp)
    exact Nat.xor_lt_two_pow (n:=32) (by omega) (s6 (Nat.xor_lt_two_pow (n:=8) (by omega) (by omega)))
  exact this _ _ (by decide) fun c hc=>hb c (List.mem_of_mem_take hc)
 have hc:eO (X.take n)<4294967296:=by unfold eO;omega
 have hn:fP (X.drop n)=4294967295^^^qV (X.take n):=by
  rw[←h,BG hc,←not_xor hs]
  rfl
 have e2:pO 4294967295 X=pO (qV (X.take n)) (X.drop n):=by
  conv=>lhs;rw[e]
  unfold pO
  rw[List.foldl_append]
  rfl
 rw[e2,mo _ _ (fun c hc=>hb c (List.mem_of_mem_drop hc)),hd,hn,Nat.xor_comm,Nat.xor_assoc,Nat.xor_self,Nat.xor_zero]
theorem Ii{X Y:List Nat}(hX:∀c∈X,c<256)(hY:∀c∈Y,c<256){n:Nat}(lX:X.length=n+4)(lY:Y.length=n+4)(h1:cb (eO (X.take n))=X.drop n)(h2:cb (eO (Y.take n))=Y.drop n)
  {m a:Nat} (hm:m<4294967296) (he:fP Y=fP X^^^m* 2^a):m=0:=by
 have r1:=Du hX lX h1
 have r2:=Du hY lY h2
 rw[mo _ _ hX,lX]at r1
 rw[mo _ _ hY,lY,←r1,he,←Nat.xor_assoc,jt (4294967295^^^fP X)]at r2
 have h0:ct (m* 2^a) (8* (n+4))=0:=by
  have:=congrArg (ct (4294967295^^^fP X) (8* (n+4))^^^·) r2
  simpa[←Nat.xor_assoc]using this
 rcases Nat.eq_zero_or_pos m with h|h
 ·exact h
 have hE:m* 2^a=fP X^^^fP Y:=by rw[he,←Nat.xor_assoc,Nat.xor_self,Nat.zero_xor]
 have hlt:m* 2^a<2^(8* (n+4)):=by
  rw[hE]
  have a1:=sF X hX
  have a2:=sF Y hY
  rw[lX]at a1
  rw[lY]at a2
  exact Nat.xor_lt_two_pow a1 a2
 have ha:a<8* (n+4):=by
  rcases Nat.lt_or_ge a (8* (n+4))with h3|h3
  ·exact h3
  ·have h4:=Nat.pow_le_pow_right (n:=2) (by omega) h3
   have h5:2^a≤m* 2^a:=Nat.le_mul_of_pos_left _ h
   omega
 rw[show 8* (n+4)=a+(8* (n+4)-a) by omega,lT,lO]at h0
 exact od hm _ h0
theorem wG(y:Nat)(hy:y<256):∀(X:List Nat) (j:Nat),(∀c∈X,c<256)→(h:j<X.length)→fP (X.set j (X[j]^^^y))=fP X^^^y* 2^(8* j)
 |[],j,_,h=>by simp at h
 |c::X,0,hb,_=>by
  have hc:=hb c (by simp)
  simp only[List.set_cons_zero,List.getElem_cons_zero,Nat.mul_zero,Nat.pow_zero,Nat.mul_one]
  rw[iU hc,iU (Nat.xor_lt_two_pow (n:=8) hc hy),Nat.xor_assoc,Nat.xor_assoc,Nat.xor_comm y]
 |c::X,j+1,hb,h=>by
  have hc:=hb c (by simp)
  have ih:=wG y hy X j (fun x hx=>hb x (by simp[hx])) (by simpa using h)
  simp only[List.set_cons_succ,List.getElem_cons_succ]
  rw[iU hc,iU hc,ih,zA,Nat.xor_assoc,Nat.mul_assoc,←Nat.pow_add,show 8* j+8=8* (j+1) by omega]
structure nb (X0 X:List Nat) (a m i:Nat):Prop where
 len:X.length=X0.length
 byte:∀c∈X,c<256
 num:fP X=fP X0^^^m* 2^a
 lt:m<2^i
 none:m=0→X=X0
theorem nb.start{X:List Nat}(h:∀c∈X,c<256)(a:Nat):nb X X a 0 0:=⟨rfl,h,by simp,by simp,fun _=>rfl⟩
theorem nb.skip{X0 X:List Nat}{a m i:Nat}(h:nb X0 X a m i):nb X0 X a m (i+1):=
 ⟨h.len,h.byte,h.num,Nat.lt_of_lt_of_le h.lt (Nat.pow_le_pow_right (by omega) (by omega)),h.none⟩
theorem nb.flip{X0 X:List Nat}{a m i:Nat}(h:nb X0 X a m i)(hj:(a+i)/8<X.length):(m^^^2^i≠0)∧nb X0 (X.set ((a+i)/8) (X[(a+i)/8]^^^2^((a+i)%8))) a (m^^^2^i) (i+1):=by
 have h8:2^((a+i)%8)<256:=by
  have:=Nat.pow_le_pow_right (n:=2) (i:=(a+i)%8) (j:=7) (by omega) (by omega)
  omega
 have hm:m^^^2^i≠0:=fun h0=>by
  have:=congrArg (·^^^2^i) h0
  simp only[Nat.xor_assoc,Nat.xor_self,Nat.xor_zero,Nat.zero_xor]at this
  have:=h.lt
  omega
 refine⟨hm,by rw[List.length_set];exact h.len,fun c hc=>?_,?_,?_,fun h0=>absurd h0 hm⟩
 ·rcases List.mem_or_eq_of_mem_set hc with hc|rfl
  ·exact h.byte c hc
  ·exact Nat.xor_lt_two_pow (n:=8) (h.byte _ (List.getElem_mem hj)) h8
 ·rw[wG _ h8 X _ h.byte hj,h.num,Nat.xor_assoc,zA,←Nat.pow_add,←Nat.pow_add,show(a+i)%8+8* ((a+i)/8)=i+a by omega]
 ·exact Nat.xor_lt_two_pow (Nat.lt_of_lt_of_le h.lt (Nat.pow_le_pow_right (by omega) (by omega))) (Nat.pow_lt_pow_right (by omega) (by omega))
theorem xp{I X:List Nat}{m a i mx:Nat}(hI:∀c∈I,c<256)(hl:I.length≤mx)(hmx:mx≤1048576)(h:nb (I++cb (eO I)) X a m i)(hi:i≤32)(hm:m≠0):dk (a9 I.length++X) mx=([],[],5):=by
 have hg:aJ (a9 I.length++X)=(I.length,(a9 I.length).length,0):=fc _ (by omega) _
 have hX:X.length=I.length+4:=by rw[h.len];simp[cb]
 have hm32:m<4294967296:=Nat.lt_of_lt_of_le h.lt (Nat.pow_le_pow_right (n:=2) (j:=32) (by omega) hi)
 have hbad:cb (eO (X.take I.length))≠X.drop I.length:=fun h2=>hm (by
  refine Ii (X:=I++cb (eO I)) (Y:=X) (n:=I.length) (a:=a) ?_ h.byte (by simp[cb]) hX ?_ h2 hm32 h.num
  ·intro c hc
   rcases List.mem_append.1 hc with hc|hc
   ·exact hI c hc
   ·exact mv _ c hc
  ·rw[List.take_left,List.drop_left])
 have e1:oq (a9 I.length++X)=X.take I.length:=by unfold oq;rw[hg,List.drop_left]
 have e2:(o9 (a9 I.length++X)).take 4=X.drop I.length:=by
  unfold o9
  rw[hg]
  simp only
  rw[←List.drop_drop,List.drop_left,List.take_of_length_le (by rw[List.length_drop];omega)]
 unfold dk
 rw[hg,e1,e2]
 simp only
 rw[if_neg (by simp),if_neg (by omega),if_neg (by rw[List.length_append];omega),if_pos hbad]
theorem Made.small{l:List ai}{k:Int}{s:Sg}(hm:Made l k 0 s)(hok:∀v∈l,dF v.i)(hl:l.length≤1000):s.body.length≤1035000:=by
 have hb:bV (aB l) k 1=(iy (aB l) k,aL (aB l) k):=if_pos rfl
 have h:=yT hm (c:=1) (by omega) (by omega) (by rw[hb];exact hm.kY)
 rw[hb,show iy (aB l) k=aW (aB l)from if_pos hm.kY]at h
 have hv:=((cf _ _).1 hm.kY).2.2
 have h2:=jG (aB l) fun v hv2=>⟨hok v (kf hv2),(hv v hv2).2⟩
 have h3:(aB l).length≤l.length:=List.length_filter_le _ _
 simp only at h
 omega
theorem xO{I X:List Nat}{m a i:Nat}(hI:∀c∈I,c<256)(hl:I.length≤1048576)(h:nb (I++cb (eO I)) X a m i)(hi:i≤32)(hm:m≠0):(jM (a9 I.length++X)).2.2=5:=by
 unfold jM
 rw[xp hI hl (Nat.le_refl _) h hi hm]
 rfl
def su:List ai→Nat→Nat
 |[],n=>n
 |v::r,n=>if n≤100000 then su r (n+v.s.size)else n
theorem rO(v:ai)(r:List ai)(n:Nat):su (v::r) n=if n≤100000 then su r (n+v.s.size)else n:=rfl
def ub(l:List ai):Bool:=decide (l.length≤1000)&&decide (su l 0≤100000)
theorem EC{l:List ai}(h:ub l=true):l.length≤1000:=by
 unfold ub at h
 simp at h
 exact h.1
theorem yM(l:List ai)(nn:Bool)(H:aa)(hl:l.length≤1000000000000000)(hs:∀v∈l,v.s.size≤140737488351232):ag Tryz.prog 13 [.d (.list nn (l.map ai.enc))] H (.ok (bA (ub l))) H:=by
 refine ag.aj (hint:=(fun _=>false)) Tryz.func13 (by kernel_rfl) rfl [2] (by kernel_rfl) (by decide) (by simp[Tryz.ntmps13]) ?_
 rw[Tryz.ntmps13]
 simp -implicitDefEqProofs only[go_sem]
 refine cC _ _ _ _ (fun(k:Nat) s H'=>H'=H∧k≤l.length∧(∃n:Nat,n≤150000000000000∧su l 0=su (l.drop k) n∧s 3=iA n)∧s 0= .d (.list nn (l.map ai.enc))∧s 4=iA k) (fun k=>l.length-k) 0 (ar.refl _ _) ?_ ?_
 ·refine⟨rfl,Nat.zero_le _,⟨0,by omega,rfl,?_⟩,?_⟩
  ·simp -implicitDefEqProofs only[↓reduceIte,go_sem,Nat.reduceLT,Nat.reduceEqDiff,eq_self]
  ·simp -implicitDefEqProofs only[↓reduceIte,go_sem,Nat.reduceLT,reduceCtorEq,eq_self]
 ·rintro k s H' ⟨rfl,hk,⟨n,hn,hf,t3⟩,t0,t4⟩
  have hw1:IntKind.i64.wrap ((k:Int)+1)=(k:Int)+1:=wrap64_in _ (by omega) (by omega)
  have fin:(k=l.length∨100000<n)→su l 0=n:=by
   rintro(h|h)
   ·rw[hf,List.drop_of_length_le (by omega)];rfl
   ·rw[hf]
    cases l.drop k with
    |nil=>rfl
    |cons v r=>rw[rO,if_neg (by omega)]
  by_cases hkl:k<l.length
  ·by_cases hn2:n≤100000
   ·have hx:=List.getElem?_eq_getElem hkl
    have e1:=List.drop_eq_getElem_cons hkl
    have hxs:=hs _ (List.getElem_mem hkl)
    generalize l[k]=x at hx e1 hxs
    have hf2:su l 0=su (l.drop (k+1)) (n+x.s.size):=by rw[hf,e1,rO,if_pos hn2]
    obtain⟨n2,hn2'⟩:∃n2,n2=n+x.s.size:=⟨_,rfl⟩
    have hw2:IntKind.i64.wrap ((n:Int)+(x.s.size:Int))=(n2:Int):=by rw[wrap64_in _ (by omega) (by omega)];omega
    simp -implicitDefEqProofs only[↓reduceIte,go_sem,Nat.reduceLT,Nat.reduceEqDiff,reduceCtorEq,eq_self,t0,t3,t4,eq_true hkl,show((n:Int)≤100000)=True from eq_true (by omega)]
    simp -implicitDefEqProofs only[↓reduceIte,go_sem,Nat.reduceAdd,Nat.reduceLT,Nat.reduceLeDiff,Nat.reduceEqDiff,eq_self,t4,hx,ai.enc,hw2,hw1]
    refine⟨_,_,k+1,ar.refl _ _,⟨rfl,hkl,⟨n2,by omega,by rw[hn2'];exact hf2,?_⟩,?_⟩,by omega⟩
    ·simp -implicitDefEqProofs only[↓reduceIte,go_sem,Nat.reduceLT,Nat.reduceEqDiff,eq_self]
    ·simp -implicitDefEqProofs only[↓reduceIte,go_sem,Nat.reduceLT,reduceCtorEq,eq_self,t0]
   ·simp -implicitDefEqProofs only[↓reduceIte,go_sem,Nat.reduceLT,Nat.reduceEqDiff,reduceCtorEq,eq_self,t0,t3,t4,eq_true hkl,show((n:Int)≤100000)=False from eq_false (by omega)]
    have hfe:ub l=false:=by unfold ub;rw[fin (.inr (by omega))];simp;omega
    by_cases h1:l.length≤1000
    ·simp -implicitDefEqProofs only[↓reduceIte,go_sem,Nat.reduceLT,Nat.reduceEqDiff,eq_self,t3,show((l.length:Int)≤1000)=True from eq_true (by omega),show((n:Int)≤100000)=False from eq_false (by omega)]
     refine aw.bq ?_
     simp -implicitDefEqProofs only[↓reduceIte,go_sem,Nat.reduceLT,eq_self,hfe]
    ·simp -implicitDefEqProofs only[↓reduceIte,go_sem,Nat.reduceLT,Nat.reduceEqDiff,reduceCtorEq,eq_self,show((l.length:Int)≤1000)=False from eq_false (by omega)]
     refine aw.bq ?_
     simp -implicitDefEqProofs only[↓reduceIte,go_sem,Nat.reduceLT,eq_self,hfe]
  ·simp -implicitDefEqProofs only[↓reduceIte,go_sem,Nat.reduceLT,Nat.reduceEqDiff,reduceCtorEq,eq_self,t0,t4,eq_false hkl]
   have hfe:ub l=(decide (l.length≤1000)&&decide (n≤100000)):=by unfold ub;rw[fin (.inl (by omega))]
   by_cases h1:l.length≤1000
   ·by_cases h2:n≤100000
    ·simp -implicitDefEqProofs only[↓reduceIte,go_sem,Nat.reduceLT,Nat.reduceEqDiff,eq_self,t3,show((l.length:Int)≤1000)=True from eq_true (by omega),show((n:Int)≤100000)=True from eq_true (by omega)]
     refine aw.bq ?_
     simp -implicitDefEqProofs only[↓reduceIte,go_sem,Nat.reduceLT,eq_self,hfe,h1,h2,Bool.and_self]
    ·simp -implicitDefEqProofs only[↓reduceIte,go_sem,Nat.reduceLT,Nat.reduceEqDiff,eq_self,t3,show((l.length:Int)≤1000)=True from eq_true (by omega),show((n:Int)≤100000)=False from eq_false (by omega)]
     refine aw.bq ?_
     simp -implicitDefEqProofs only[↓reduceIte,go_sem,Nat.reduceLT,eq_self,hfe,h1,h2,Bool.and_false]
   ·simp -implicitDefEqProofs only[↓reduceIte,go_sem,Nat.reduceLT,Nat.reduceEqDiff,reduceCtorEq,eq_self,show((l.length:Int)≤1000)=False from eq_false (by omega)]
    refine aw.bq ?_
    simp -implicitDefEqProofs only[↓reduceIte,go_sem,Nat.reduceLT,eq_self,hfe,h1,Bool.false_and]
def br:List ai:=[ca 5,ca 5,ca 5,ca 5]
theorem xC:aQ aO br=[ca 5]:=by
 have vv:=bg.self (ca 5)
 simp[br,aQ,St.bN,St.ins,oS,vv,St.aT,St.qY]
theorem Iw:fU (ca 5).i=10:=by decide
theorem p8:cS (ca 5)=[10]:=by
 unfold cS
 rw[if_pos (show(ca 5).kind=1 from rfl),Iw,cd (by decide)]
theorem vk:∀v∈br,v=ca 5:=by simp[br]
theorem cY:aL br 1=0:=yH (fun v hv=>⟨5,vk v hv⟩) (by decide)
theorem Bk:cU br=[(4,ca 5)]:=by decide+kernel
theorem uo:ek (cU br)=[4,10]:=by
 rw[Bk]
 simp only[ek,kX,List.flatMap_cons,List.flatMap_nil,List.append_nil,p8]
 rw[cd (by decide)]
 rfl
theorem E6:aW br=[10,10,10,10]:=by
 simp only[aW,br,List.flatMap_cons,List.flatMap_nil,List.append_nil,p8]
 rfl
theorem Ab:fa br=[1,10]:=by
 unfold fa
 rw[xC]
 have h3:cI (br.map (dY br)) (eu [ca 5].length)=[]:=by
  have:eu [ca 5].length=0:=by decide
  rw[this]
  unfold cI
  apply List.eq_nil_of_length_eq_zero
  rw[cx,en]
  simp
 rw[h3]
 simp only[aW,List.flatMap_cons,List.flatMap_nil,List.append_nil,p8,List.length_singleton]
 rw[cd (by decide)]
 rfl
theorem zb:jU br=[10,0]:=by
 unfold jU
 rw[if_pos ⟨cY,by decide⟩]
 unfold gL
 have h1:bQ br=[0,0,0]:=by decide+kernel
 rw[h1]
 have h2:cZ [0,0,0]=0:=by decide
 have h3:cI [0,0,0] 0=[]:=by decide+kernel
 simp only[br]
 rw[h2,h3,Iw,cd (by decide),cd (by decide)]
 rfl
theorem rS:aB br=br:=by decide+kernel
theorem B6:px br 1=2:=by
 have b1:bV br 1 1=([10,10,10,10],0):=by
  unfold bV;rw[if_pos rfl,cY,show iy br 1=aW br from if_pos cY,E6]
 have b2:bV br 1 2=([4,10],0):=by
  unfold bV;rw[if_neg (by decide),if_pos rfl,cY,show se br 1=ek (cU br)from if_pos cY,uo]
 have b3:bV br 1 3=([1,10],0):=by
  unfold bV;rw[if_neg (by decide),if_neg (by decide),if_pos rfl,cY,show ln br 1=fa br from if_pos cY,Ab]
 have b4:bV br 1 4=([10,0],0):=by
  unfold bV;rw[if_neg (by decide),if_neg (by decide),if_neg (by decide),if_pos ⟨rfl,rfl⟩,cY,zb]
 have s0:dT br 1 0=(-1,0):=rfl
 have st:∀n,dT br 1 (n+1)=lq br 1 (dT br 1 n) ((n:Int)+1):=fun n=>rfl
 have s1:dT br 1 1=(4,1):=by rw[st 0,s0];unfold lq;simp[b1]
 have s2:dT br 1 2=(2,2):=by rw[st 1,s1];unfold lq;simp[b2]
 have s3:dT br 1 3=(2,2):=by rw[st 2,s2];unfold lq;simp[b3]
 have s4:dT br 1 4=(2,2):=by rw[st 3,s3];unfold lq;simp[b4]
 unfold px
 rw[s4]
theorem nG:dL br 1 0=(⟨1,2,aZ br,[],[4,10]⟩,0):=by
 have hw:bD br 1 0=2:=by unfold bD;rw[if_pos rfl,rS,B6]
 have b2:bV br 1 2=([4,10],0):=by
  unfold bV;rw[if_neg (by decide),if_pos rfl,cY,show se br 1=ek (cU br)from if_pos cY,uo]
 unfold dL b5
 rw[rS,hw,cY,b2,if_neg (by decide),if_neg (by decide),if_neg (by decide),if_pos rfl]
theorem nI:Made br 1 0 ⟨1,2,aZ br,[],[4,10]⟩:=by
 have h:=nA (l:=br) (k:=1) (w:=0) (by rw[nG])
 rwa[nG]at h
theorem oR:∀v∈br,dF v.i:=fun v hv=>by rw[vk v hv];exact⟨by decide,by decide⟩
theorem sn(H:aa):ag Tryz.prog 7 [] H (.ok (bA true)) H:=by
 have hm:=fun H=>na br 1 0 oR (by decide) H
 rw[nG]at hm
 obtain⟨kn,cn,h1,_,_,h4,_,_,h7,h8,_,hB⟩:=nI.bytes oR
 have hil:=nI.IY oR h1 h4
 have hbk:=vE nI oR h1 h4 (by simp only[List.length_cons,List.length_nil]at hil;omega) [9]
 have hbl:(iG kn cn ⟨1,2,aZ br,[],[4,10]⟩).length≤1000000:=by
  have:=bn 10 (cL kn cn ⟨1,2,aZ br,[],[4,10]⟩).length (by omega)
  simp only[List.length_cons,List.length_nil]at hil
  unfold iG dj
  simp only[List.length_append,cb,List.length_cons,List.length_nil]
  omega
 have hby:=rk h7 h8
 have hof:=fun H=>qw (iG kn cn ⟨1,2,aZ br,[],[4,10]⟩++[9]) (hby.app (by intro c hc;simp at hc;omega)) (by rw[List.length_append];simp;omega) H
 rw[hbk]at hof
 have hro:(aZ br).rows=4:=fz br
 have hin:br.map ai.enc=[(ca 5).enc,(ca 5).enc,(ca 5).enc,(ca 5).enc]:=rfl
 rw[hin]at hm
 generalize (a9 (cL kn cn ⟨1,2,aZ br,[],[4,10]⟩).length).length+2=ver at*
 generalize iG kn cn ⟨1,2,aZ br,[],[4,10]⟩=B at*
 generalize aZ br=z at*
 obtain⟨zr,zn,zmn,zmx⟩:=z
 simp only at hro
 subst hro
 simp only[Sg.cs]at hm hB hof
 have e1:(eZ [9]).toList=[9]:=iN [9]
 have e2:(⟨#[9]⟩:ByteArray).toList=[9]:=by rw[ByteArray.toList_eq]
 have e:((eZ [9]).toList==(⟨#[9]⟩:ByteArray).toList)=true:=by rw[e1,e2];decide
 have hB2:∀o1 o2:aA,_:=fun o1 o2=>hB (H++[o1,o2])
 simp only[List.length_append,List.append_assoc,List.cons_append,List.nil_append,List.length_cons,List.length_nil,Nat.zero_add,Nat.add_assoc,Nat.reduceAdd]at hB2
 refine ag.aj (hint:=(fun _=>false)) Tryz.func7 (by kernel_rfl) rfl [0] (by kernel_rfl) (by decide) (by simp[Tryz.ntmps7]) ?_
 rw[Tryz.ntmps7]
 simp -implicitDefEqProofs only[↓reduceIte,go_sem,ah,ak,Nat.reduceAdd,Nat.reduceMul,Nat.reduceLT,Nat.reduceLeDiff,Nat.reduceEqDiff,eq_self]
 refine ab.sub (.cons (.nn _) (.cons (.refl _) (.cons (.refl _) .nil))) (hm _) ?_
 simp -implicitDefEqProofs only[↓reduceIte,go_sem,ah,ak,Nat.reduceAdd,Nat.reduceLT,Nat.reduceEqDiff,eq_self]
 refine ab.ok (hB2 _ _) ?_
 simp -implicitDefEqProofs only[↓reduceIte,go_sem,Nat.reduceAdd,Nat.reduceLT,Nat.reduceLeDiff,Nat.reduceEqDiff,eq_self,al]
 refine⟨by omega,by omega,?_⟩
 have e9:aG B++[[D.v (.int .u8 9)]]=aG (B++[9]):=by rw[←eB];rfl
 rw[e9]
 refine ab.p6 [] (e:=5) (k:=1) (ver:=ver+1) (es:=aG (B++[9])) (by simp) (by rw[List.drop_zero,List.take_of_length_le (by rw[al];simp)];exact hof _) ?_
 have b9:aG [4,10]=[[D.v (.int .u8 4)],[D.v (.int .u8 10)]]:=rfl
 simp -implicitDefEqProofs only[↓reduceIte,go_sem,ah,ak,Nat.reduceAdd,Nat.reduceLT,Nat.reduceLeDiff,Nat.reduceEqDiff,eq_self,dZ,e,List.length_cons,List.length_nil,b9]
 refine aw.ret ?_
 simp -implicitDefEqProofs only[↓reduceIte,go_sem,Nat.reduceLT,eq_self]
end Go.Proofs.YtmbagpfmfiegkaaGreat
namespace Go.Proofs.YtmbagpfmfiegkaaGreatAw
open Go.RowKit
inductive HM (H:aa):AV→AV→Prop
 |d (x:D):HM H (.d x) (.d x)
 |sl (id k ver off len:Nat) (e:TypeId) (es:List (List D)) (ho:H[id]?=some (.arr e k ver es)):HM H (.sl id ver off len) (.d (.list false ((es.drop off).take len)))
inductive tM (H:aa):List AV→List AV→Prop
 |nil:tM H [] []
 |cons {x y:AV} {xs ys:List AV} (h:HM H x y) (t:tM H xs ys):tM H (x::xs) (y::ys)
theorem tM.len{H:aa}{xs ys:List AV}(h:tM H xs ys):xs.length=ys.length:=by
 induction h with
 |nil=>rfl
 |cons _ _ ih=>simp[ih]
theorem tM.get{H:aa}{xs ys:List AV}(h:tM H xs ys):∀i (h1:i<xs.length) (h2:i<ys.length),HM H xs[i] ys[i]:=by
 induction h with
 |nil=>intro i h1;simp at h1
 |cons h t ih=>
  intro i h1 h2
  cases i with
  |zero=>exact h
  |succ i=>exact ih i (by simpa using h1) (by simpa using h2)
def wD(w:World):Addr→Prop:=fun a=>∃v,w.cell? a=some v
theorem HM.ra{H:aa}{φ:aN}{N:Addr→Prop}{w:World}(hR:Rel H φ N w){x y:AV}{v:Value}(h:HM H x y)(hx:RA H φ N w x v):RA [] (fun _=>none) (wD w) w y v:=by
 cases h with
 |d x=>
  cases hx with
  |d hd=>exact .d (hd.mono (fun a ha=>hR.live a ha) fun _ _ _ h=>h)
 |sl id k ver off len e es ho=>
  cases hx with
  |sl _ _ _ _ A l m' o ho' hv' hp=>
  rw[ho]at ho';cases ho'
  obtain⟨rfl,h1,h2⟩:=hp rfl
  simp only[aA.len]at h1
  by_cases hl0:l=0
  ·subst hl0
   simp only[List.take_zero]
   exact .d (.nil _ _ (by rcases h2 with⟨_,_,_,rfl⟩|⟨B,c,_,_,rfl,_⟩;exact fun _=>rfl;exact fun h=>by cases h))
  have hobj:=hR.obj id _ ho
  cases hobj with
  |arr _ _ _ _ hk hes hbl=>
  rcases h2 with⟨_,h3,_⟩|⟨B,c,h3,h4,rfl,rfl⟩
  ·omega
  rcases hbl with⟨g0,_⟩|⟨B',cap,cur,g1,g2,g3,g4,g5,g6⟩
  ·rw[g0]at h3;cases h3
  obtain⟨e1,e2⟩:=Prod.mk.inj (Option.some.inj (g1.symm.trans h3))
  subst e1 e2
  have hel:((es.drop off).take l).length=l:=by simp;omega
  have key:=RD.list (N:=wD w) (w:=w) false ((es.drop off).take l) ⟨B',off* k,none⟩ (cap-off) k (fun i j=>cur.getD ((off+i)* k+j) undef) (by rw[hel];omega)
   (fun e he=>hes e (List.mem_of_mem_drop (List.mem_of_mem_take he))) (fun i j hi hj=>by
    rw[hel]at hi
    have hlt:(off+i)* k+j<es.length* k:=dg hj (by omega)
    have hlt2:(off+i)* k+j<cur.size:=by have:=Nat.mul_le_mul_right k g3;omega
    have hpos:off* k+(i* k+j)=(off+i)* k+j:=by rw[Nat.add_mul];omega
    rw[add_plain,hpos]
    have hc:w.cell? ⟨B',(off+i)* k+j,none⟩=some (cur.getD ((off+i)* k+j) undef):=by simp[World.cell?,g2,Array.getD,hlt2]
    exact⟨⟨_,hc⟩,hc⟩) (fun i hi j hj=>by
    rw[hel]at hi
    simp only[List.getElem_take,List.getElem_drop]at hj⊢
    obtain⟨u,hu,hd⟩:=g6 (off+i) (by omega) j hj
    have hget:cur.getD ((off+i)* k+j) undef=u:=by
     rw[Array.getD_eq_getD_getElem?,hu];rfl
    simp only[hget]
    exact hd.mono (fun a ha=>hR.live a ha) fun _ _ _ h=>h)
  rw[hel]at key
  exact .d key
def uV:AV→Bool
 | .d (.v _)=>true
 |_=>false
def vI:AV→Bool
 | .d (.v _)=>true
 | .bf cs=>cs.all uV
 | .agg cs=>cs.all uV
 |_=>false
theorem vD{H H':aa}{φ φ':aN}{N N':Addr→Prop}{w w':World}{x:AV}{v:Value}(hf:uV x=true)(h:RA H φ N w x v):RA H' φ' N' w' x v:=by
 cases h<;>try (simp[uV]at hf;done)
 rename_i hd
 cases hd<;>try (simp[uV]at hf;done)
 rename_i hx
 exact .d (.v _ hx)
theorem DN{H H':aa}{φ φ':aN}{N N':Addr→Prop}{w w':World}{x:AV}{v:Value}(hf:vI x=true)(h:RA H φ N w x v):RA H' φ' N' w' x v:=by
 cases h with
 |bf cs vs hl g=>exact .bf cs vs hl fun i h1 h2=>vD (List.all_eq_true.1 hf _ (List.getElem_mem h1)) (g i h1 h2)
 |agg cs vs hl g=>exact .agg cs vs hl fun i h1 h2=>vD (List.all_eq_true.1 hf _ (List.getElem_mem h1)) (g i h1 h2)
 |d hd=>
  cases hd<;>try (simp[vI]at hf;done)
  rename_i hx
  exact .d (.v _ hx)
 |_=>simp[vI]at hf
theorem ag.borrow{P:Program}{f:FuncId}{xs bs:List AV}{H:aa}{r:AV}(hb:tM H xs bs)(h:ag P f bs [] (.ok r) [])(hf:vI r=true):ag P f xs H (.ok r) H:=by
 intro φ N w vals hR hA
 have hR0:Rel [] (fun _=>none) (wD w) w:=⟨fun id o h=>by simp at h,fun i j B c c' h=>by simp at h,fun a h=>h,fun a id B c _ h=>by simp at h⟩
 have hA0:qz [] (fun _=>none) (wD w) w bs vals:=⟨by rw[←hb.len];exact hA.1,fun i h1 h2=>(hb.get i (by rw[hb.len];exact h1) h1).ra hR (hA.2 i (by rw[hb.len];exact h1) h2)⟩
 have h4:=h _ _ w vals hR0 hA0
 have go:∀e' w',(∃φ' N',Rel [] φ' N' w'∧au [] (fun _=>none) (wD w) w [] φ' N' w'∧qp [] φ' N' w' (.ok r) e')→∃φ' N',Rel H φ' N' w'∧au H φ N w H φ' N' w'∧qp H φ' N' w' (.ok r) e':=by
  rintro e' w' ⟨φ',N',hR',hS',hE⟩
  have hk:∀k,k<w.heap.size→w'.heap[k]?=w.heap[k]?:=fun k hk=>hS'.dd k hk fun id c h=>by simp at h
  have hlt:∀id B c,id<H.length→φ id=some (B,c)→B<w.heap.size:=by
   intro id B c hid hp
   have hob:=hR.obj id _ (List.getElem?_eq_getElem hid)
   have hs:∀{x},w.heap[B]?=some x→B<w.heap.size:=fun hx=>by
    rcases Nat.lt_or_ge B w.heap.size with h|h
    ·exact h
    ·simp[Array.getElem?_eq_none h]at hx
   generalize H[id]=o at hob
   cases hob with
   |arr e k ver es hk hes h=>
    rcases h with⟨h0,_⟩|⟨B',cap,cur,h1,h2,_⟩
    ·rw[hp]at h0;cases h0
    ·rw[hp]at h1;cases h1;exact hs h2
   |box e k ver n cs B' cap cur _ _ hp' hb'=>rw[hp]at hp';cases hp';exact hs hb'
   |mp kk es B' cap ents clock hp' hb'=>rw[hp]at hp';cases hp';exact hs hb'
   |dead ver hp'=>rw[hp]at hp';cases hp'
   |iter m since seen B' cap bm cm kk es hp' hb'=>rw[hp]at hp';cases hp';exact hs hb'
   |lp r s B' cap hp' hb'=>rw[hp]at hp';cases hp';exact hs hb'
  have hS:au H φ N w H φ N w':=⟨Nat.le_refl _,hS'.os,hS'.tape,hS'.output,hS'.size,fun k h _=>hk k h,fun id B c hid hp _=>⟨id,c,hid,hp⟩,fun _ h=>h,
   fun _ o h=>⟨o,h,rfl,Nat.le_refl _,fun _=>⟨rfl,Nat.le_refl _⟩,fun kk es h=>⟨rfl,es,h⟩⟩,fun _ h=> .inl h⟩
  refine⟨φ,N,⟨fun id o ho=>?_,hR.inj,fun a ha=>?_,hR.apart⟩,hS,?_⟩
  ·exact(hR.obj id o ho).dd hR hS rfl fun B c hp=>hk B (hlt id B c (ao ho) hp)
  ·obtain⟨v,hv⟩:=hR.live a ha
   exact⟨v,hS.cell hR a v ha hv⟩
  ·cases e' with
   |returned v=>exact DN hf hE
   |_=>exact hE.elim
 rcases h4 with⟨h5,h6⟩|⟨v,w',h5,h6⟩
 ·exact .inl ⟨h5,h6.mono go⟩
 ·exact .inr ⟨v,w',h5,go _ _ h6⟩
theorem ab.KS{P:Program}{f:FuncId}{xs bs:List AV}{H:aa}{K:AV→aa→Prop}{KP:Value→aa→Prop}{r:AV}(hb:tM H xs bs)(h:ag P f bs [] (.ok r) [])(hf:vI r=true)(hk:K r H):ab P f xs H K KP:=ab.ok (ag.borrow hb h hf) hk
end Go.Proofs.YtmbagpfmfiegkaaGreatAw
namespace Go.Proofs.YtmbagpfmfiegkaaGreat
open Go.Proofs.YtmbagpfmfiegkaaGreatAw Go.RowKit
theorem pd(l:List ai)(k:Int)(a mask:Nat)(ha:a≤65535)(hmask:mask<4294967296)(hl:l.length≤140737488351232)(hls:∀v∈l,v.Ok)(H:aa):
  ag Tryz.prog 4 [.d (.list false (l.map ai.enc)),iA k,.d (.v (.int .u16 a)),.d (.v (.int .u32 mask))] H (.ok (bA true)) H:=by
 have hfl:=fun H=>yM l false H (by omega) (fun v hv=>(hls v hv).s)
 refine ag.aj (hint:=(fun _=>false)) Tryz.func4 (by kernel_rfl) rfl [8] (by kernel_rfl) (by decide) (by simp[Tryz.ntmps4]) ?_
 rw[Tryz.ntmps4]
 simp -implicitDefEqProofs only[go_sem]
 refine ab.ok (sn _) ?_
 simp -implicitDefEqProofs only[↓reduceIte,go_sem,Nat.reduceLT,reduceCtorEq,eq_self]
 refine ab.ok (hfl _) ?_
 by_cases hf:ub l=false
 ·simp -implicitDefEqProofs only[↓reduceIte,go_sem,Nat.reduceLT,Nat.reduceEqDiff,eq_self,hf]
  refine aw.bq ?_
  simp -implicitDefEqProofs only[↓reduceIte,go_sem,Nat.reduceLT,eq_self]
 have hf:ub l=true:=by simpa using hf
 have hll:=EC hf
 have okl:∀v∈l,dF v.i:=fun v hv=>(hls v hv).i
 have mkl:=fun H=>na l k 0 okl (by omega) H
 have mdl:=nA (l:=l) (k:=k) (w:=0)
 generalize dL l k 0=q at*
 obtain⟨s,e⟩:=q
 simp only at mkl mdl
 by_cases he:e≠0
 ·obtain⟨sk,sw,⟨zr,zn,mn,mx⟩,ns,bd⟩:=s
  simp only[Sg.cs]at mkl
  simp -implicitDefEqProofs only[↓reduceIte,go_sem,Nat.reduceLT,Nat.reduceEqDiff,reduceCtorEq,eq_self,hf]
  refine ab.ok (mkl _) ?_
  simp -implicitDefEqProofs only[↓reduceIte,go_sem,ak,Nat.reduceAdd,Nat.reduceLT,Nat.reduceEqDiff,eq_self,he]
  refine aw.ret ?_
  simp -implicitDefEqProofs only[↓reduceIte,go_sem,Nat.reduceLT,eq_self]
 obtain rfl:e=0:=by simpa using he
 have mdl:=mdl rfl
 obtain⟨kn,cn,k1,_,_,k4,_,_,k7,k8,_,kB⟩:=mdl.bytes okl
 have sl:=mdl.small okl hll
 have il:=mdl.IY okl k1 k4
 have bk:=vE mdl okl k1 k4 (by omega) []
 rw[List.append_nil]at bk
 have trn:=fun X m hT hm=>xO (I:=cL kn cn s) (X:=X) (m:=m) (a:=a) (i:=32) k7 (by omega) hT (Nat.le_refl _) hm
 have hcl:=tH (cL kn cn s)
 have hbB:iG kn cn s=a9 (cL kn cn s).length++(cL kn cn s++cb (eO (cL kn cn s))):=by unfold iG dj;rw[List.append_assoc]
 have hX0:∀c∈cL kn cn s++cb (eO (cL kn cn s)),c<256:=fun c hc=>by
  rcases List.mem_append.1 hc with hc|hc
  ·exact k7 c hc
  ·exact mv _ c hc
 have hXl:(cL kn cn s++cb (eO (cL kn cn s))).length≤1048580∧4≤(cL kn cn s++cb (eO (cL kn cn s))).length:=by
  rw[List.length_append];simp only[cb,List.length_cons,List.length_nil];omega
 have hpl:=bn 10 (cL kn cn s).length (by omega)
 have hp1:1≤(a9 (cL kn cn s).length).length:=by
  rw[a9];split<;>simp
 have hg:∀X,aJ (a9 (cL kn cn s).length++X)=((cL kn cn s).length,(a9 (cL kn cn s).length).length,0):=fun X=>fc _ (by omega) X
 have hpb:∀c∈a9 (cL kn cn s).length,c<256:=cV (by omega)
 rw[hbB]at kB bk
 generalize cL kn cn s++cb (eO (cL kn cn s))=X0 at*
 generalize a9 (cL kn cn s).length=p at*
 generalize (cL kn cn s).length=n at*
 obtain⟨ver,hver⟩:∃ver,ver=p.length+2:=⟨_,rfl⟩
 rw[←hver]at kB
 have hget:=fun H=>kd (p++X0) (by rw[List.length_append];omega) (fun c hc=>by rcases List.mem_append.1 hc with hc|hc;exact hpb c hc;exact hX0 c hc) H
 rw[hg]at hget
 clear mdl k7 k8 hls okl sl il hg hbB
 obtain⟨sk,sw,⟨zr,zn,mn,mx⟩,ns,bd⟩:=s
 simp only[Sg.cs]at mkl kB
 have kB2:∀o:aA,_:=fun o=>kB (H++[o])
 simp only[List.length_append,List.append_assoc,List.cons_append,List.nil_append,List.length_cons,List.length_nil,Nat.zero_add,Nat.add_assoc,Nat.reduceAdd]at kB2
 obtain⟨L,hL⟩:∃L,L=p.length+X0.length:=⟨_,rfl⟩
 rw[←hL]at kB2
 simp -implicitDefEqProofs only[↓reduceIte,go_sem,Nat.reduceLT,Nat.reduceEqDiff,reduceCtorEq,eq_self,hf]
 refine ab.ok (mkl _) ?_
 simp -implicitDefEqProofs only[↓reduceIte,go_sem,ah,ak,Nat.reduceAdd,Nat.reduceLT,Nat.reduceEqDiff,eq_self]
 refine ab.ok (kB2 _) ?_
 simp -implicitDefEqProofs only[↓reduceIte,go_sem,Nat.reduceLT,eq_self]
 refine ab.KS (.cons (.sl (H.length+4) 1 ver 0 L 5 (aG (p++X0)) (by simp)) .nil) (by rw[List.drop_zero,List.take_of_length_le (by rw[al,List.length_append];omega)];exact hget _) rfl ?_
 have q1:((p.length:Int)<1)=False:=eq_false (by omega)
 have q2:((L:Int)≤(p.length:Int))=False:=eq_false (by omega)
 simp -implicitDefEqProofs only[↓reduceIte,go_sem,Nat.reduceLT,Nat.reduceEqDiff,reduceCtorEq,eq_self,q1,q2]
 have hT0:=nb.start hX0 a
 obtain⟨o1,ho1⟩:∃o:aA,o= .box 30 12 0 1 [iA sk,iA sw,iA zr,iA zn,iA mn.kind,iA mn.i,sA mn.s,iA mx.kind,iA mx.i,sA mx.s,.d (.list false (cr ns)),.d (.list false (aG bd))]:=⟨_,rfl⟩
 rw[←ho1]
 refine fM (fun i s H'=>∃X m,nb X0 X a m i∧H'=H++[o1,o1,.arr 5 1 9 [],.arr 83 4 1 [],.arr 5 1 ver (aG (p++X))]∧s 2= .d (.v (.int .u16 a))∧s 3= .d (.v (.int .u32 mask))∧s 9=bA true∧s 12= .sl (H.length+4) ver 0 L∧s 14=iA p.length∧s 16=bA (decide (m≠0))∧s 17=iA i) 32 (by omega) (ar.refl _ _) ?_ ?_ ?_
 ·refine⟨X0,0,hT0,rfl,?_⟩
  simp -implicitDefEqProofs only[↓reduceIte,go_sem,Nat.reduceLT,Nat.reduceEqDiff,eq_self]
 ·rintro i s H' hi hw ⟨X,m,hT,rfl,t2,t3,t9,t12,t14,t16,t17⟩
  have c1:IntKind.i64.wrap (a:Int)=(a:Int):=wrap64_in _ (by omega) (by omega)
  obtain⟨N0,hK⟩:∃N0,N0=a+i:=⟨_,rfl⟩
  have c2:IntKind.i64.wrap ((a:Int)+(i:Int))=(N0:Int):=by rw[wrap64_in _ (by omega) (by omega)];omega
  have c3:=zK mask i (by omega)
  have c4:=Ge (w:=mask/2^i) (Nat.lt_of_le_of_lt (Nat.div_le_self _ _) hmask)
  have c5:IntKind.i64.wrap ((i:Int)+1)=(i:Int)+1:=wrap64_in _ (by omega) (by omega)
  have i32:((i:Int)<32)=True:=eq_true (by omega)
  have hXl2:=hT.len
  generalize mask/2^i%2=bit at*
  generalize ((mask/2^i:Nat):Int)=sh at*
  by_cases hb:bit=1
  ·obtain⟨J,hJ⟩:∃J,J=N0/8:=⟨_,rfl⟩
   obtain⟨Q,hQ⟩:∃Q,Q=p.length+J:=⟨_,rfl⟩
   have d1:(N0:Int).tdiv 8=(J:Int):=by rw[hJ];exact(Int.ofNat_tdiv N0 8).symm
   have d0:IntKind.i64.wrap (J:Int)=(J:Int):=wrap64_in _ (by omega) (by omega)
   have d2:IntKind.i64.wrap ((p.length:Int)+(J:Int))=(Q:Int):=by rw[wrap64_in _ (by omega) (by omega)];omega
   have hb1:(bit:Int)=1:=by omega
   by_cases hJX:J<X.length
   ·simp -implicitDefEqProofs only[↓reduceIte,go_sem,Nat.reduceLT,Nat.reduceEqDiff,Int.reduceEq,eq_self,t2,t3,t12,t14,t17,c1,c2,c3,c4,i32,hb1,d1,d0,d2,show((Q:Int)<(L:Int))=True from eq_true (by omega)]
    obtain⟨R,hR⟩:∃R,R=N0%8:=⟨_,rfl⟩
    have d3:(N0:Int).tmod 8=(R:Int):=by rw[hR];exact(Int.ofNat_tmod N0 8).symm
    have hy:2^R<256:=by
     have:=Nat.pow_le_pow_right (n:=2) (i:=R) (j:=7) (by omega) (by omega)
     omega
    have d4:IntKind.u8.wrap (nq .u8 1 (R:Int))=((2^R:Nat):Int):=by
     have:∀r:Nat,r<8→IntKind.u8.wrap (nq .u8 1 (r:Int))=((2^r:Nat):Int):=by decide+kernel
     exact this R (by omega)
    have hT2:(m^^^2^i≠0)∧nb X0 (X.set J (X[J]^^^2^R)) a (m^^^2^i) (i+1):=by
     subst hJ hR hK
     exact hT.flip hJX
    obtain⟨hm2,hT2⟩:=hT2
    have hx8:=hT.byte _ (List.getElem_mem hJX)
    have hx:(aG (p++X))[Q]?=some [.v (.int .u8 (X[J]:Nat))]:=by
     unfold aG
     rw[List.getElem?_map,hQ,List.getElem?_append_right (by omega),show p.length+J-p.length=J by omega,List.getElem?_eq_getElem hJX]
     rfl
    have hx2:IntKind.u8.wrap (oG .u8 ((X[J]:Nat):Int) ((2^R:Nat):Int))=((X[J]^^^2^R:Nat):Int):=by
     rw[mJ .u8 _ _ (by simp only[IntKind.bits];omega) (by simp only[IntKind.bits];omega),tu,Nat.mod_eq_of_lt (Nat.xor_lt_two_pow (n:=8) (by omega) (by omega))]
    have hset:(aG (p++X)).set Q [.v (.int .u8 ((X[J]^^^2^R:Nat):Int))]=aG (p++X.set J (X[J]^^^2^R)):=by
     unfold aG
     rw[←List.map_set (f:=fun n:Nat=>[D.v (.int .u8 (n:Int))]),hQ,List.set_append_right _ _ (by omega),show p.length+J-p.length=J by omega]
    generalize X.set J (X[J]^^^2^R)=X2 at*
    generalize X[J]^^^2^R=z at*
    generalize X[J]=x at*
    generalize ((2^R:Nat):Int)=y at*
    have hQL:Q<L:=by omega
    have q0:((Q:Int)<(L:Int))=True:=eq_true (by omega)
    refine fu 16 K.mixed (by kernel_rfl) (by kernel_rfl) ?_
    simp -implicitDefEqProofs only[↓reduceIte,go_sem,ah,ak,Nat.reduceLT,Nat.reduceEqDiff,Int.reduceEq,eq_self,t12,t14,t17,c5,d0,d1,d2,d3,d4,q0,hx,hx2]
    refine eQ.same ⟨X2,_,hT2,?_,?_⟩
    ·simp -implicitDefEqProofs only[go_sem,eq_self,hset]
    simp -implicitDefEqProofs only[↓reduceIte,go_sem,Nat.reduceLT,Nat.reduceEqDiff,eq_self,t2,t3,t9,t12,t14]
    rw[decide_eq_true hm2]
   ·simp -implicitDefEqProofs only[↓reduceIte,go_sem,Nat.reduceLT,Nat.reduceEqDiff,Int.reduceEq,eq_self,t2,t3,t12,t14,t17,c1,c2,c3,c4,i32,hb1,d1,d0,d2,show((Q:Int)<(L:Int))=False from eq_false (by omega)]
    simp -implicitDefEqProofs only[go_sem,c5]
    refine eQ.same ⟨X,m,hT.skip,rfl,?_⟩
    simp -implicitDefEqProofs only[↓reduceIte,go_sem,Nat.reduceLT,Nat.reduceEqDiff,eq_self,t2,t3,t9,t12,t14,t16]
  ·have hb1:((bit:Int)=1)=False:=eq_false (by omega)
   simp -implicitDefEqProofs only[↓reduceIte,go_sem,Nat.reduceLT,Nat.reduceEqDiff,reduceCtorEq,eq_self,t2,t3,t17,c1,c2,c3,c4,i32,hb1]
   simp -implicitDefEqProofs only[go_sem,c5]
   refine eQ.same ⟨X,m,hT.skip,rfl,?_⟩
   simp -implicitDefEqProofs only[↓reduceIte,go_sem,Nat.reduceLT,Nat.reduceEqDiff,eq_self,t2,t3,t9,t12,t14,t16]
 ·rintro s H' ⟨X,m,hT,rfl,t2,t3,t9,t12,t14,t16,t17⟩
  have hXl3:=hT.len
  have hof:=fun H=>qw (p++X) (fun c hc=>by rcases List.mem_append.1 hc with hc|hc;exact hpb c hc;exact hT.byte c hc) (by rw[List.length_append];omega) H
  have hres:(jM (p++X)).2.2=if m=0 then 0 else 5:=by
   by_cases hm:m=0
   ·rw[if_pos hm,hT.none hm,bk]
   ·rw[if_neg hm,trn X m hT hm]
  generalize jM (p++X)=q at*
  obtain⟨⟨uk,uw,⟨xr,xn,m5,m6⟩,us,be⟩,r,g⟩:=q
  simp only[Sg.cs]at hof hres
  simp -implicitDefEqProofs only[↓reduceIte,go_sem,Nat.reduceLT,Nat.reduceEqDiff,Int.reduceLT,eq_self,t12,t17]
  refine ab.p6 [] (e:=5) (k:=1) (ver:=ver) (es:=aG (p++X)) (by simp) (by rw[List.drop_zero,List.take_of_length_le (by rw[al,List.length_append];omega)];exact hof _) ?_
  by_cases hm:m=0
  ·rw[if_pos hm]at hres
   subst hres
   simp -implicitDefEqProofs only[↓reduceIte,go_sem,ak,Nat.reduceAdd,Nat.reduceLT,Nat.reduceEqDiff,eq_self,t9,t16,hm]
   refine aw.ret ?_
   simp -implicitDefEqProofs only[↓reduceIte,go_sem,Nat.reduceLT,eq_self]
  ·rw[if_neg hm]at hres
   subst hres
   simp -implicitDefEqProofs only[↓reduceIte,go_sem,ak,Nat.reduceAdd,Nat.reduceLT,Nat.reduceEqDiff,Int.reduceEq,reduceCtorEq,eq_self,t9,t16,hm]
   refine aw.ret ?_
   simp -implicitDefEqProofs only[↓reduceIte,go_sem,Nat.reduceLT,eq_self]
theorem Ev{x:AV}(h:jc Tryz.prog 43 x):∃n:Nat,x= .d (.v (.int .u16 n))∧n≤65535:=by
 obtain⟨d,rfl,hf⟩:=oK h K.Gd (sh:= .int .u16) (by kernel_rfl)
 obtain⟨n,rfl,hn⟩:=Fits.tJ hf
 have hn:IntKind.u16.min≤n∧n≤IntKind.u16.max:=by simpa[Lit.wf]using hn
 have h0:IntKind.u16.min=0:=by decide
 have h1:IntKind.u16.max=65535:=by decide
 obtain⟨m,rfl⟩:=Int.eq_ofNat_of_zero_le (show 0≤n by omega)
 exact⟨m,rfl,by omega⟩
theorem EM{x:AV}(h:jc Tryz.prog 44 x):∃n:Nat,x= .d (.v (.int .u32 n))∧n<4294967296:=by
 obtain⟨d,rfl,hf⟩:=oK h K.F6 (sh:= .int .u32) (by kernel_rfl)
 obtain⟨n,rfl,hn⟩:=Fits.tJ hf
 have hn:IntKind.u32.min≤n∧n≤IntKind.u32.max:=by simpa[Lit.wf]using hn
 have h0:IntKind.u32.min=0:=by decide
 have h1:IntKind.u32.max=4294967295:=by decide
 obtain⟨m,rfl⟩:=Int.eq_ofNat_of_zero_le (show 0≤n by omega)
 exact⟨m,rfl,by omega⟩
theorem segTurned_does(x0:AV)(h0:jc Tryz.prog 42 x0)(x1:AV)(h1:jc Tryz.prog 3 x1)(x2:AV)(h2:jc Tryz.prog 43 x2)(x3:AV)(h3:jc Tryz.prog 44 x3):ag Tryz.prog 4 [x0,x1,x2,x3] [] (.ok (.d (.v (.bool true)))) []:=by
 obtain⟨l,rfl,hl,hls⟩:=Dr h0
 obtain⟨k,rfl,hk⟩:=EV h1
 obtain⟨a,rfl,ha⟩:=Ev h2
 obtain⟨m,rfl,hm⟩:=EM h3
 exact pd l k a m ha hm hl hls []
end Go.Proofs.YtmbagpfmfiegkaaGreat
