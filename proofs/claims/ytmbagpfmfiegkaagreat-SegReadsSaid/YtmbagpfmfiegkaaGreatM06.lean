/- Contracts of functions and lemmas for segReads_holds, part 6. -/
import Derived.Test.YtmbagpfmfiegkaaGreatM05
set_option maxHeartbeats 8000000
set_option maxRecDepth 100000
set_option linter.all false
namespace Go.Proofs.YtmbagpfmfiegkaaGreat
open Go.Proofs.YtmbagpfmfiegkaaGreatAw Go.RowKit
def cx(l:List aq)(r:Nat×aq):List aq:=l++List.replicate (min r.1 (4096-l.length)) r.2
def cf(R:List (Nat×aq)):List aq:=R.foldl cx []
theorem o5(R:List (Nat×aq))(r:Nat×aq):cf (R++[r])=cx (cf R) r:=by simp[cf]
theorem sf(l:List aq)(r:Nat×aq)(h:l.length≤4096):(cx l r).length≤4096:=by simp[cx];omega
theorem nI(R:List (Nat×aq)):(cf R).length≤4096:=by
 have:∀(R:List (Nat×aq)) (l:List aq),l.length≤4096→(R.foldl cx l).length≤4096:=by
  intro R
  induction R with
  |nil=>exact fun l h=>h
  |cons r R ih=>exact fun l h=>ih _ (sf l r h)
 exact this R [] (by simp)
theorem yT(R:List (Nat×aq))(nn:Bool)(hl:R.length≤1000000)(hn:∀r∈R,r.1≤1000000000)(H:aa):ag Tryz.prog 118 [.d (.list nn (R.map dc))] H (.ok (.d (.list false ((cf R).map aq.enc)))) H:=by
 refine ag.aj (hint:=(fun _=>false)) Tryz.func118 (by kernel_rfl) rfl [2] (by kernel_rfl) (by decide) (by simp[Tryz.ntmps118]) ?_
 rw[Tryz.ntmps118]
 simp -implicitDefEqProofs only[↓reduceIte,go_sem,Nat.reduceLT,reduceCtorEq]
 refine bW (fun k s H'=>∃ver,H'=H++[.arr 25 3 ver ((cf (R.take k)).map aq.enc)]∧s 3= .sl H.length ver 0 (cf (R.take k)).length∧s 6= .d (.list nn (R.map dc))∧s 7=iA R.length∧s 8=iA k) R.length (by omega) (ay.db _ _ 3 25 3 (by decide) (by simp -implicitDefEqProofs only[↓reduceIte,go_sem,Nat.reduceLT,Nat.reduceEqDiff]) _) ?_ ?_ ?_
 ·refine⟨0,rfl,?_⟩
  simp -implicitDefEqProofs only[↓reduceIte,go_sem,Nat.reduceLT,Nat.reduceEqDiff]
  rfl
 ·rintro k s H' hk hw ⟨ver,rfl,t3,t6,t7,t8⟩
  have hx:(R.map dc)[k]?=some [.v (.int .i64 (R[k].1:Int)),.v (.int .i64 R[k].2.kind),.v (.int .i64 R[k].2.i),.v (.string R[k].2.s)]:=by rw[List.getElem?_map,List.getElem?_eq_getElem hk];rfl
  have e1:cf (R.take (k+1))=cx (cf (R.take k)) R[k]:=by rw[List.take_succ_eq_append_getElem hk,o5]
  have hll:=nI (R.take k)
  have hnk:=hn _ (List.getElem_mem hk)
  rw[e1]
  generalize cf (R.take k)=L at*
  generalize R[k]=r at*
  obtain⟨n,v⟩:=r
  simp only at hnk hx
  obtain⟨q,hq⟩:∃q,q=min n (4096-L.length):=⟨_,rfl⟩
  have hmx:max (n:Int) 0=(n:Int):=by omega
  have hmn:min (n:Int) (4096-(L.length:Int))=(q:Int):=by omega
  have wl:IntKind.i64.wrap (4096-(L.length:Int))=4096-(L.length:Int):=wrap64_in _ (by omega) (by omega)
  have hr:=fun H=>yR v true q (by omega) H
  have hst:(cx L (n,v)).map aq.enc=L.map aq.enc++List.replicate q v.enc:=by
   unfold cx
   rw[List.map_append,List.map_replicate,hq]
  have hsl:(cx L (n,v)).length=L.length+q:=by unfold cx;rw[List.length_append,List.length_replicate,hq]
  have h3:(∀c∈List.replicate q v.enc,c.length=3)=True:=eq_true fun c hc=>by rw[List.eq_of_mem_replicate hc];rfl
  have happ:L.map aq.enc++List.replicate q [D.v (.int .i64 v.kind),.v (.int .i64 v.i),.v (.string v.s)]=(cx L (n,v)).map aq.enc:=hst.symm
  unfold aq.enc at hr h3
  simp -implicitDefEqProofs only[↓reduceIte,go_sem,ah,au,Nat.reduceAdd,Nat.reduceLT,Nat.reduceLeDiff,Nat.reduceEqDiff,t3,t6,t7,t8,hk,hx,hmx,wl,hmn]
  refine ae.ok (hr _) ?_
  simp -implicitDefEqProofs only[↓reduceIte,go_sem,Nat.reduceAdd,Nat.reduceLT,Nat.reduceEqDiff,t8,h3,List.length_map,List.length_replicate,happ]
  refine⟨by omega,by omega,?_⟩
  refine c9.cut [.arr 25 3 (ver+1) ((cx L (n,v)).map aq.enc)] _ 1 rfl rfl (by simp -implicitDefEqProofs only[go_sem]) ?_
  refine⟨ver+1,rfl,?_⟩
  simp -implicitDefEqProofs only[↓reduceIte,go_sem,Nat.reduceLT,Nat.reduceEqDiff,t6,t7,hw,hsl]
 ·rintro s H' ⟨ver,rfl,t3,t6,t7,t8⟩
  rw[List.take_length]at*
  simp -implicitDefEqProofs only[↓reduceIte,go_sem,Nat.reduceLT,Nat.reduceEqDiff,t3,t7,t8]
  refine aw.ret ?_
  simp -implicitDefEqProofs only[↓reduceIte,go_sem,Nat.reduceLT,List.take_of_length_le (show((cf R).map aq.enc).length≤(cf R).length by rw[List.length_map];exact Nat.le_refl _)]
def fU(b:List Nat)(n k:Int):List aq×Int:=if(cU b n k).2≠0 then([],(cU b n k).2)else(cf (cU b n k).1,0)
theorem KQ(k:Int):∀(f:Nat) (R:List (Nat×aq)) (n:Nat) (b:List Nat) (m:Nat),n≤m→R.length+n≤4096→(∀r∈R,r.1≤m)→(rq k f R n b).1.length≤4096∧∀r∈(rq k f R n b).1,r.1≤m:=by
 intro f
 induction f with
 |zero=>intro R n b m h1 h2 h3;exact⟨by simp only[rq];omega,h3⟩
 |succ f ih=>
  intro R n b m h1 h2 h3
  unfold rq
  split
  ·exact⟨by simp only;omega,h3⟩
  rename_i hn0
  split
  ·exact⟨by simp,by simp⟩
  rename_i he
  split
  ·exact⟨by simp,by simp⟩
  obtain⟨q,r,e,hq⟩:∃q r e,dS b n k=(q,r,e):=⟨_,_,_,rfl⟩
  rw[hq]at he⊢
  obtain rfl:e=0:=by simpa using he
  obtain⟨g1,g2,_⟩:=oD hq
  refine ih _ _ _ m (by simp only;omega) (by simp only[List.length_append,List.length_singleton];omega) ?_
  intro x hx
  rcases List.mem_append.1 hx with h|h
  ·exact h3 x h
  ·rw[List.mem_singleton.1 h];simp only;omega
theorem vl(b:List Nat)(n k:Int):(cU b n k).1.length≤4096∧∀r∈(cU b n k).1,r.1≤4096:=by
 unfold cU
 split
 ·exact⟨by simp,by simp⟩
 split
 ·exact⟨by simp,by simp⟩
 split
 ·exact⟨by simp,by simp⟩
 split
 ·exact⟨by simp,by simp⟩
 split
 ·exact⟨by simp,by simp⟩
 exact KQ k _ [] _ b 4096 (by omega) (by simp;omega) (by simp)
theorem BR(b:List Nat)(n k:Int)(hl:b.length≤140737488351232)(hb:∀c∈b,c<256)(H:aa):
  ag Tryz.prog 82 [.d (.list false (aD b)),iA n,iA k] H (.ok (.bz [.d (.list false ((fU b n k).1.map aq.enc)),iA (fU b n k).2])) H:=by
 have ht:=fun H=>xV b n k hl hb H
 obtain⟨h1,h2⟩:=vl b n k
 unfold fU
 generalize cU b n k=q at*
 obtain⟨R,e⟩:=q
 simp only at ht h1 h2⊢
 have hs:=fun H=>yT R false (by omega) (fun r hr=>by have:=h2 r hr;omega) H
 by_cases he:e=0
 ·rw[if_neg (by simpa using he)]
  subst he
  refine ag.aj (hint:=(fun _=>false)) Tryz.func82 (by kernel_rfl) rfl [6,7] (by kernel_rfl) (by decide) (by simp[Tryz.ntmps82]) ?_
  rw[Tryz.ntmps82]
  simp -implicitDefEqProofs only[↓reduceIte,go_sem,Nat.reduceLT,Nat.reduceEqDiff,reduceCtorEq]
  refine ae.ok (ht _) ?_
  simp -implicitDefEqProofs only[↓reduceIte,go_sem,Nat.reduceLT,Nat.reduceEqDiff]
  refine ae.ok (hs _) ?_
  simp -implicitDefEqProofs only[↓reduceIte,go_sem,Nat.reduceLT]
  refine aw.aI ?_
  simp -implicitDefEqProofs only[↓reduceIte,go_sem,Nat.reduceLT,Nat.reduceEqDiff]
 ·rw[if_pos he]
  refine ag.bE (cs:=[.d (.v (.slice none 0 0)),iA e]) ?_ (.cons .nil (.cons (.refl _) .nil))
  refine ag.aj (hint:=(fun _=>false)) Tryz.func82 (by kernel_rfl) rfl [6,7] (by kernel_rfl) (by decide) (by simp[Tryz.ntmps82]) ?_
  rw[Tryz.ntmps82]
  simp -implicitDefEqProofs only[↓reduceIte,go_sem,Nat.reduceLT,Nat.reduceEqDiff,reduceCtorEq]
  refine ae.ok (ht _) ?_
  simp -implicitDefEqProofs only[↓reduceIte,go_sem,Nat.reduceLT,Nat.reduceEqDiff,he]
  refine aw.aI ?_
  simp -implicitDefEqProofs only[↓reduceIte,go_sem,Nat.reduceLT,Nat.reduceEqDiff]
theorem Ae(b:List Nat)(n k:Int)(hl:b.length≤140737488351232)(hb:∀c∈b,c<256)(G:aa)(id:Nat)(h:G[id]?=some (kB k)):
  ag Tryz.prog 81 [.d (.list false (aD b)),iA n,.ptr id 0 0 0] G (.ok (.bz [.d (.list false ((fU b n k).1.map aq.enc)),iA (fU b n k).2])) G:=by
 have hd:=fun H=>BR b n k hl hb H
 unfold kB at h
 refine ag.aj (hint:=(fun _=>false)) Tryz.func81 (by kernel_rfl) rfl [5,6] (by kernel_rfl) (by decide) (by simp[Tryz.ntmps81]) ?_
 rw[Tryz.ntmps81]
 simp -implicitDefEqProofs only[↓reduceIte,go_sem,ah,Nat.reduceLT,Nat.reduceEqDiff,reduceCtorEq,h]
 refine ae.ok (hd _) ?_
 simp -implicitDefEqProofs only[↓reduceIte,go_sem,Nat.reduceLT,Nat.reduceEqDiff]
 refine aw.aI ?_
 simp -implicitDefEqProofs only[↓reduceIte,go_sem,Nat.reduceLT,Nat.reduceEqDiff]
def mV(x:Int)(S:List Nat):Nat→Int
 |0=>x
 |k+1=>IntKind.i64.wrap (mV x S k+dA (S.getD k 0))
def gF(x:Int)(S:List Nat)(n:Nat):List aq:=(List.range n).map fun k=>cG (mV x S k)
theorem gG(x:Int)(S:List Nat)(n:Nat):(gF x S n).length=n:=by simp[gF]
theorem va(x:Int)(S:List Nat)(n:Nat):gF x S (n+1)=gF x S n++[cG (mV x S n)]:=by simp[gF,List.range_succ]
theorem Ik(x:Int)(S:List Nat){n k:Nat}(h:k<n):(gF x S n)[k]?=some (cG (mV x S k)):=by simp[gF,h]
def JH(b:List Nat)(n:Nat):Option (List aq)×Int:=
 if(aQ b).2.2≠0 then(none,(aQ b).2.2)
 else if(aQ (b.drop (aQ b).2.1)).2.2≠0 then(none,(aQ (b.drop (aQ b).2.1)).2.2)
 else if 64<(aQ (b.drop (aQ b).2.1)).1 then(none,4)
 else if bq (b.drop ((aQ b).2.1+(aQ (b.drop (aQ b).2.1)).2.1)) (n-1) (aQ (b.drop (aQ b).2.1)).1≠0 then(none,bq (b.drop ((aQ b).2.1+(aQ (b.drop (aQ b).2.1)).2.1)) (n-1) (aQ (b.drop (aQ b).2.1)).1)
 else if cw (bG (b.drop ((aQ b).2.1+(aQ (b.drop (aQ b).2.1)).2.1)) (n-1) (aQ (b.drop (aQ b).2.1)).1)≠(aQ (b.drop (aQ b).2.1)).1 then(none,4)
 else(some (gF (dA (aQ b).1) (bG (b.drop ((aQ b).2.1+(aQ (b.drop (aQ b).2.1)).2.1)) (n-1) (aQ (b.drop (aQ b).2.1)).1) n),0)
def mW(b:List Nat)(n:Int):Option (List aq)×Int:=
 if n<0∨4096<n then(none,2)
 else if n=0 then(none,if 0<b.length then 4 else 0)
 else JH b n.toNat
def fa:Option (List aq)→AV
 |some l=> .d (.list false (l.map aq.enc))
 |none=> .d (.v (.slice none 0 0))
theorem Jr(b:List Nat)(n:Int)(nn:Bool)(hl:b.length≤140737488351232)(hb:∀c∈b,c<256)(H:aa):
  ag Tryz.prog 88 [.d (.list nn (aD b)),iA n] H (.ok (.bz [fa (mW b n).1,iA (mW b n).2])) H:=by
 refine ag.aj (hint:=(fun t=>t==79)) Tryz.func88 (by kernel_rfl) rfl [4,5] (by kernel_rfl) (by decide) (by simp[Tryz.ntmps88]) ?_
 rw[Tryz.ntmps88]
 by_cases h1:n<0
 ·simp -implicitDefEqProofs only[↓reduceIte,go_sem,Nat.reduceLT,Nat.reduceEqDiff,h1]
  refine aw.aI ?_
  simp -implicitDefEqProofs only[↓reduceIte,go_sem,Nat.reduceLT,Nat.reduceEqDiff]
  simp[mW,h1,fa]
 by_cases h2:4096<n
 ·simp -implicitDefEqProofs only[↓reduceIte,go_sem,Nat.reduceLT,Nat.reduceEqDiff,reduceCtorEq,h1,h2]
  refine aw.aI ?_
  simp -implicitDefEqProofs only[↓reduceIte,go_sem,Nat.reduceLT,Nat.reduceEqDiff]
  simp[mW,h2,fa]
 by_cases h3:n=0
 ·subst h3
  by_cases h4:0<b.length
  ·have h4':(0<(b.length:Int))=True:=eq_true (by omega)
   simp -implicitDefEqProofs only[↓reduceIte,go_sem,Nat.reduceLT,Nat.reduceEqDiff,Int.reduceLT,reduceCtorEq,ai,h4']
   refine aw.aI ?_
   simp -implicitDefEqProofs only[↓reduceIte,go_sem,Nat.reduceLT,Nat.reduceEqDiff]
   simp[mW,h4,fa]
  ·have h4':(0<(b.length:Int))=False:=eq_false (by omega)
   simp -implicitDefEqProofs only[↓reduceIte,go_sem,Nat.reduceLT,Nat.reduceEqDiff,Int.reduceLT,reduceCtorEq,ai,h4']
   refine aw.aI ?_
   simp -implicitDefEqProofs only[↓reduceIte,go_sem,Nat.reduceLT,Nat.reduceEqDiff]
   simp[mW,h4,fa]
 have hR:mW b n=JH b n.toNat:=by simp[mW,h1,h2,h3]
 rw[hR]
 obtain⟨m,hm⟩:∃m:Nat,n=((m+1:Nat):Int):=⟨n.toNat-1,by omega⟩
 have hwn:IntKind.i64.wrap (n-1)=(m:Int):=by rw[wrap64_in _ (by omega) (by omega)];omega
 unfold JH
 rw[show n.toNat=m+1 by omega,show m+1-1=m from rfl]
 have hgl:=eO b
 have hglt:=fh b
 simp -implicitDefEqProofs only[↓reduceIte,go_sem,Nat.reduceAdd,Nat.reduceLT,Nat.reduceEqDiff,Nat.reduceBEq,reduceCtorEq,h1,h2,h3]
 refine ae.ok (kg b nn (by omega) hb H) ?_
 generalize aQ b=g1 at*
 obtain⟨first,k,e⟩:=g1
 simp only at hgl hglt
 by_cases he:e=0
 ·subst he
  have hk0:((0:Int)≤(k:Int))=True:=eq_true (by omega)
  simp -implicitDefEqProofs only[↓reduceIte,go_sem,Nat.reduceAdd,Nat.reduceLT,Nat.reduceEqDiff,Nat.reduceBEq,reduceCtorEq,aL,ai,hk0]
  refine⟨by omega,?_⟩
  rw[show(aD b).take b.length=aD b from bQ _ _ (ai _),cS]
  have hgl2:=eO (b.drop k)
  have hglt2:=fh (b.drop k)
  have hb2:∀c∈b.drop k,c<256:=fun c hc=>hb c (List.mem_of_mem_drop hc)
  refine ae.ok (kg (b.drop k) false (by simp;omega) hb2 H) ?_
  rw[List.length_drop]at hgl2
  generalize aQ (b.drop k)=g2 at*
  obtain⟨w,j,e⟩:=g2
  simp only at hgl2 hglt2
  by_cases he:e=0
  ·subst he
   by_cases hw:64<w
   ·have hw':(64<(w:Int))=True:=eq_true (by omega)
    simp -implicitDefEqProofs only[↓reduceIte,go_sem,Nat.reduceAdd,Nat.reduceLT,Nat.reduceEqDiff,Nat.reduceBEq,hw']
    refine aw.aI ?_
    simp -implicitDefEqProofs only[↓reduceIte,go_sem,Nat.reduceLT,Nat.reduceEqDiff]
    simp[hw,fa]
   ·have hw':(64<(w:Int))=False:=eq_false (by omega)
    have hkj:IntKind.i64.wrap ((k:Int)+(j:Int))=((k+j:Nat):Int):=by rw[wrap64_in _ (by omega) (by omega)];rfl
    have hww:IntKind.i64.wrap (w:Int)=(w:Int):=wrap64_in _ (by omega) (by omega)
    obtain⟨p,hp⟩:∃p,p=k+j:=⟨_,rfl⟩
    rw[←hp]at hkj
    simp only[←hp]
    have hp0:((0:Int)≤(p:Int))=True:=eq_true (by omega)
    simp -implicitDefEqProofs only[↓reduceIte,go_sem,Nat.reduceAdd,Nat.reduceLT,Nat.reduceEqDiff,Nat.reduceBEq,reduceCtorEq,hw',hkj,hww,hwn,aL,ai,hp0]
    refine⟨by omega,?_⟩
    rw[show(aD b).take b.length=aD b from bQ _ _ (ai _),cS]
    have hb3:∀c∈b.drop p,c<256:=fun c hc=>hb c (List.mem_of_mem_drop hc)
    have hSl:=gp (b.drop p) m w (by omega)
    have hSn:=cr (b.drop p) m w
    have hu:=ml (b.drop p) m w false (by simp;omega) hb3 (by omega) (by omega) H
    unfold eF at hu
    generalize bG (b.drop p) m w=S at*
    by_cases hue:bq (b.drop p) m w=0
    ·rw[hue]at hu⊢
     refine ae.ok hu ?_
     simp -implicitDefEqProofs only[↓reduceIte,go_sem,Nat.reduceAdd,Nat.reduceLT,Nat.reduceEqDiff,Nat.reduceBEq]
     refine ae.ok (nQ S false H (by omega) hSl) ?_
     by_cases hwd:cw S=w
     ·have hwd':(((cw S:Nat):Int)=(w:Int))=True:=eq_true (by omega)
      simp -implicitDefEqProofs only[↓reduceIte,go_sem,Nat.reduceAdd,Nat.reduceLT,Nat.reduceEqDiff,Nat.reduceBEq,hww,hwd']
      refine ae.ok (ry first hglt H) ?_
      simp -implicitDefEqProofs only[↓reduceIte,go_sem,Nat.reduceAdd,Nat.reduceLT,Nat.reduceLeDiff,Nat.reduceEqDiff,Nat.reduceBEq,cT,hSn]
      refine bW (fun i s H'=>H'=H++[.arr 25 3 i ((gF (dA first) S (i+1)).map aq.enc)]∧s 12= .sl H.length i 0 (i+1)∧s 80= .d (.list false (us S))∧s 81=iA m∧s 82=iA i) m (by omega) (ay.refl _ _) ?_ ?_ ?_
      ·refine⟨?_,?_⟩
       ·simp -implicitDefEqProofs only[go_sem]
        rfl
       ·simp -implicitDefEqProofs only[↓reduceIte,go_sem,Nat.reduceLT,Nat.reduceEqDiff]
      ·rintro i s H' hi hw2 ⟨rfl,t12,t80,t81,t82⟩
       have hx:=iO S i (by omega)
       have hgd:S.getD i 0=S[i]'(by omega):=by simp[List.getD,show i<S.length by omega]
       have hsx:=hSl _ (List.getElem_mem (show i<S.length by omega))
       have hsu:gF (dA first) S (i+1+1)=gF (dA first) S (i+1)++[cG (IntKind.i64.wrap (mV (dA first) S i+dA (S[i]'(by omega))))]:=by rw[va,←hgd];rfl
       have hlst:=Ik (dA first) S (show i<i+1 by omega)
       have hln:=gG (dA first) S (i+1)
       generalize S[i]'(by omega)=x at hx hsx hsu
       rw[hsu]
       generalize mV (dA first) S i=y at*
       generalize gF (dA first) S (i+1)=L at*
       simp -implicitDefEqProofs only[↓reduceIte,go_sem,Nat.reduceAdd,Nat.reduceLT,Nat.reduceEqDiff,Nat.reduceBEq,t80,t81,t82,hi,hx]
       have hii:((i:Int)<(i:Int)+1)=True:=eq_true (by omega)
       refine ig 11 K.mixed (by kernel_rfl) (by kernel_rfl) ?_
       simp -implicitDefEqProofs only[↓reduceIte,go_sem,ah,Nat.reduceAdd,Nat.reduceLT,Nat.reduceLeDiff,Nat.reduceEqDiff,t12,hlst,hii,aq.enc,cG]
       refine ae.ok (ry x hsx _) ?_
       have hsn:L.map aq.enc++[[D.v (.int .i64 1),D.v (.int .i64 (IntKind.i64.wrap (y+dA x))),D.v (.string ⟨#[]⟩)]]=(L++[cG (IntKind.i64.wrap (y+dA x))]).map aq.enc:=by simp[aq.enc,cG,cP]
       simp -implicitDefEqProofs only[↓reduceIte,go_sem,Nat.reduceAdd,Nat.reduceLT,Nat.reduceLeDiff,Nat.reduceEqDiff,Nat.reduceBEq,List.length_map,hln,hsn]
       refine⟨by omega,by omega,?_⟩
       simp -implicitDefEqProofs only[↓reduceIte,go_sem,Nat.reduceLT,t82]
       refine c9.same ⟨?_,?_⟩
       ·simp -implicitDefEqProofs only[go_sem]
       ·simp -implicitDefEqProofs only[↓reduceIte,go_sem,Nat.reduceLT,Nat.reduceEqDiff,t80,t81,hw2]
      ·rintro s H' ⟨rfl,t12,t80,t81,t82⟩
       simp -implicitDefEqProofs only[↓reduceIte,go_sem,Nat.reduceAdd,Nat.reduceLT,Nat.reduceEqDiff,Nat.reduceBEq,t12,t81,t82]
       refine aw.ret ?_
       simp -implicitDefEqProofs only[↓reduceIte,go_sem,Nat.reduceLT,Nat.reduceEqDiff]
       rw[show((gF (dA first) S (m+1)).map aq.enc).take (m+1)=(gF (dA first) S (m+1)).map aq.enc from bQ _ _ (by rw[List.length_map,gG])]
       simp[hw,hwd,fa]
     ·have hwd':(((cw S:Nat):Int)=(w:Int))=False:=eq_false (by omega)
      simp -implicitDefEqProofs only[↓reduceIte,go_sem,Nat.reduceLT,Nat.reduceEqDiff,hww,hwd']
      refine aw.aI ?_
      simp -implicitDefEqProofs only[↓reduceIte,go_sem,Nat.reduceLT,Nat.reduceEqDiff]
      simp[hw,hwd,fa]
    ·rw[if_neg hue]at hu
     refine ae.ok hu ?_
     simp -implicitDefEqProofs only[↓reduceIte,go_sem,Nat.reduceAdd,Nat.reduceLT,Nat.reduceEqDiff,Nat.reduceBEq,hue]
     refine aw.aI ?_
     simp -implicitDefEqProofs only[↓reduceIte,go_sem,Nat.reduceLT,Nat.reduceEqDiff]
     simp[hw,hue,fa]
  ·simp -implicitDefEqProofs only[↓reduceIte,go_sem,Nat.reduceAdd,Nat.reduceLT,Nat.reduceEqDiff,Nat.reduceBEq,he]
   refine aw.aI ?_
   simp -implicitDefEqProofs only[↓reduceIte,go_sem,Nat.reduceLT,Nat.reduceEqDiff]
   simp[he,fa]
 ·simp -implicitDefEqProofs only[↓reduceIte,go_sem,Nat.reduceAdd,Nat.reduceLT,Nat.reduceEqDiff,Nat.reduceBEq,he]
  refine aw.aI ?_
  simp -implicitDefEqProofs only[↓reduceIte,go_sem,Nat.reduceLT,Nat.reduceEqDiff]
  simp[he,fa]
end Go.Proofs.YtmbagpfmfiegkaaGreat
namespace Go.Proofs.YtmbagpfmfiegkaaGreatAw
open Go.RowKit
section
variable (P:Program) (hint:Nat→Bool) (n:Nat) (ops:Array Oper) (a p:Nat) (bx:aT) (B:aa)
def jb(o:Oper)(H:aa):Prop:=∃e z k b e',o.op= .alloc e∧o.guard=none∧TI P e=some (z,k,b)∧(0<k∧z.cells.size=k∧z.cells.all Value.oneCell'=true)∧sH hint o.dst=true∧bx= .box e k 1 1 (cL z.cells)∧H[p]?=some (.arr e' k 0 [])
def b6(Q:bH):Nat→List (Option Bool)→List Oper→(Nat→AV)→aa→Prop
 |_,[],l,s,H=>bK P hint n ops Q l s H
 |_,_::_,[],s,H=>bK P hint n ops Q [] s H
 |i,b::bs,o::rest,s,H=>if i=a then jb P hint p bx o H∧b6 Q (i+1) bs rest (cv n s o.dst (.ptr p 1 0 0)) (H.set p bx)else match b with
  |some false=>ek P hint n ops (fun _ _ _=>False) o (fun s' H'=>H'=H∧b6 Q (i+1) bs rest s' H') s H
  |none=>ek P hint n ops (fun _ _ _=>False) o (fun s' H'=>H'=B∧b6 Q (i+1) bs rest s' H) s B
  |some true=>o.guard=none∧(if i<a then aN P hint s H o (fun r H'=>aN P hint s (H.set p bx) o (fun r' H''=>r'=r∧H''=H'.set p bx∧H'[p]?=H[p]?∧Ext B H'∧b6 Q (i+1) bs rest (cv n s o.dst r) H') (fun _ _=>False)) (fun _ _=>False)
    else aN P hint s H o (fun r H'=>Ext B H'∧b6 Q (i+1) bs rest (cv n s o.dst r) H') (fun _ _=>False))
end
section
variable {P:Program} {hint:Nat→Bool} {n:Nat} {ops:Array Oper} {Q:bH} {a p:Nat} {bx:aT} {B:aa}
def Am(P:Program)(hint:Nat→Bool)(n:Nat)(ops:Array Oper)(a p:Nat)(bx:aT)(B:aa)(b:Option Bool)(i:Nat)(o:Oper)(s:Nat→AV)(r:AV)(H H':aa):Prop:=
 if i=a then jb P hint p bx o H∧r= .ptr p 1 0 0∧H'=H.set p bx else match b with
 |some false=>di P hint n ops H s o r H∧H'=H
 |none=>di P hint n ops B s o r B∧H'=H
 |some true=>di P hint n ops H s o r H'∧Ext B H'∧(i<a→di P hint n ops (H.set p bx) s o r (H'.set p bx)∧H'[p]?=H[p]?)
theorem lk{H H':aa}{s:Nat→AV}{o:Oper}{r:AV}(hg:o.guard=none)(h:∀K KP,K r H'→aN P hint s H o K KP):di P hint n ops H s o r H':=by
 unfold di
 rw[hg]
 exact h
theorem mZ(hdt:∀(i:Nat) (o:Oper),ops[i]?=some o→mw hint o.op=true)(s0:Nat→AV):∀(bs:List (Option Bool)) (k:Nat) (rs0:Nat→AV) (hp0:Nat→aa),k+bs.length≤ops.size→b6 P hint n ops a p bx B Q k bs (ops.toList.drop k) (cd n ops s0 rs0 k) (hp0 k)→
  ∃(rs:Nat→AV) (hp:Nat→aa),(∀i,i<k→rs i=rs0 i)∧(∀i,i≤k→hp i=hp0 i)∧
   (∀i o b,k≤i→i<k+bs.length→ops[i]?=some o→bs[i-k]?=some b→Am P hint n ops a p bx B b i o (cd n ops s0 rs i) (rs i) (hp i) (hp (i+1)))∧
   bK P hint n ops Q (ops.toList.drop (k+bs.length)) (cd n ops s0 rs (k+bs.length)) (hp (k+bs.length))
 |[],k,rs0,hp0,hk,h=>⟨rs0,hp0,fun _ _=>rfl,fun _ _=>rfl,fun i o b h1 h2=>by simp at h2;omega,by
   have h:bK P hint n ops Q (ops.toList.drop k) (cd n ops s0 rs0 k) (hp0 k):=by
    cases hd:ops.toList.drop k<;>(rw[hd]at h;exact h)
   exact h⟩
 |b::bs,k,rs0,hp0,hk,h=>by
  simp only[List.length_cons]at hk
  have hlt:k<ops.size:=by omega
  have hget:ops[k]?=some ops[k]:=by simp[hlt]
  have hd:ops.toList.drop k=ops[k]::ops.toList.drop (k+1):=by
   rw[List.drop_eq_getElem_cons (by simpa using hlt)];simp
  rw[hd]at h
  have hdst:bV ops k=(ops[k]).dst:=by simp[bV,hget]
  have step:∃r H',Am P hint n ops a p bx B b k ops[k] (cd n ops s0 rs0 k) r (hp0 k) H'∧b6 P hint n ops a p bx B Q (k+1) bs (ops.toList.drop (k+1)) (cv n (cd n ops s0 rs0 k) (ops[k]).dst r) H':=by
   unfold Am
   unfold b6 at h
   by_cases hka:k=a
   ·rw[if_pos hka]at h
    refine⟨.ptr p 1 0 0,(hp0 k).set p bx,?_,h.2⟩
    rw[if_pos hka]
    exact⟨h.1,rfl,rfl⟩
   ·rw[if_neg hka]at h
    simp only[if_neg hka]
    match b,h with
    |some false,h=>
     obtain⟨r,H',h1,rfl,h3⟩:=kU (hdt k _ hget) h
     exact⟨r,_,⟨h1,rfl⟩,h3⟩
    |none,h=>
     obtain⟨r,H',h1,rfl,h3⟩:=kU (hdt k _ hget) h
     exact⟨r,_,⟨h1,rfl⟩,h3⟩
    |some true,⟨hg,h⟩=>
     by_cases hlta:k<a
     ·rw[if_pos hlta]at h
      obtain⟨r,H',h1,h2⟩:=ij (hdt k _ hget) h
      obtain⟨r',H'',⟨rfl,rfl,h3,h4,h5⟩,h6⟩:=ij (hdt k _ hget) h1
      exact⟨r',H',⟨lk hg h2,h4,fun _=>⟨lk hg h6,h3⟩⟩,h5⟩
     ·rw[if_neg hlta]at h
      obtain⟨r,H',⟨h1,h3⟩,h2⟩:=ij (hdt k _ hget) h
      exact⟨r,H',⟨lk hg h2,h1,fun hh=>absurd hh hlta⟩,h3⟩
  obtain⟨r,H',h1,h4⟩:=step
  let rs1:Nat→AV:=fun i=>if i=k then r else rs0 i
  let hp1:Nat→aa:=fun i=>if i=k+1 then H' else hp0 i
  have e1:rs1 k=r:=if_pos rfl
  have e2:hp1 (k+1)=H':=if_pos rfl
  have hst:∀(rs:Nat→AV) i,i≤k→(∀j,j<i→rs j=rs0 j)→cd n ops s0 rs i=cd n ops s0 rs0 i:=by
   intro rs i
   induction i with
   |zero=>intros;rfl
   |succ i ih=>
    intro hi hr
    simp only[cd,ih (by omega) fun j hj=>hr j (by omega),hr i (by omega)]
  have h5:b6 P hint n ops a p bx B Q (k+1) bs (ops.toList.drop (k+1)) (cd n ops s0 rs1 (k+1)) (hp1 (k+1)):=by
   rw[e2]
   simp only[cd,e1,hdst]
   rw[hst rs1 k (Nat.le_refl _) fun j hj=>if_neg (by omega)]
   exact h4
  obtain⟨rs,hp,g1,g2,g3,g4⟩:=mZ hdt s0 bs (k+1) rs1 hp1 (by omega) h5
  have f1:∀i,i<k→rs i=rs0 i:=fun i hi=>by rw[g1 i (by omega)];exact if_neg (by omega)
  have f2:∀i,i≤k→hp i=hp0 i:=fun i hi=>by rw[g2 i (by omega)];exact if_neg (by omega)
  have f3:rs k=r:=by rw[g1 k (by omega)];exact e1
  have f4:hp (k+1)=H':=by rw[g2 (k+1) (by omega)];exact e2
  refine⟨rs,hp,f1,f2,fun i o b' hi hi2 ho hb=>?_,by rw[List.length_cons,show k+(bs.length+1)=k+1+bs.length from by omega];exact g4⟩
  rcases Nat.lt_or_ge k i with hki|hki
  ·refine g3 i o b' hki (by simp only[List.length_cons]at hi2;omega) ho ?_
   rwa[show i-k=(i-(k+1))+1 from by omega,List.getElem?_cons_succ]at hb
  ·obtain rfl:i=k:=by omega
   rw[hget]at ho
   cases ho
   rw[Nat.sub_self,List.getElem?_cons_zero]at hb
   cases hb
   rw[f2 i (Nat.le_refl _),f3,f4,hst rs i (Nat.le_refl _) fun j hj=>f1 j hj]
   exact h1
theorem jb.step{o:Oper}{H:aa}{s:Nat→AV}(h:jb P hint p bx o H):di P hint n ops H s o (.ptr p 1 0 0) (H.set p bx):=by
 obtain⟨e,z,k,b,e',h1,h2,h3,h4,h5,h6,h7⟩:=h
 refine lk h2 fun K KP hk=>?_
 obtain⟨d,op,ty,ps,af,g⟩:=o
 simp only at h1 h2 h5
 subst h1 h2
 rw[Aj,h3]
 refine⟨by rw[rp h3];exact h4,?_⟩
 rw[h5]
 exact⟨p,e',h7,by rw[←h6];exact hk⟩
end
def vm(hint:Nat→Bool)(ops:Array Oper)(bs:List (Option Bool))(a:Nat):Bool:=decide (a<bs.length)&&(List.range bs.length).all fun i=>i==a||match bs[i]?,ops[i]? with
 |some (some false),some o=>k9 hint false o
 |some none,some o=>k9 hint true o
 |some (some true),some _=>(decide (i<a)||dG ops 12 i a)&&(List.range i).all fun c=>c==a||bs[c]?==some (some false)||bs[c]?==some none||dG ops 12 i c
 |_,_=>false
section
variable {P:Program} {hint:Nat→Bool} {n:Nat} {ops:Array Oper} {Q:bH}
theorem mK(bs:List (Option Bool))(a p:Nat)(bx:aT)(B:aa){H0 H:aa}{id:Nat}{s:Nat→AV}(hm:P.follows .mixedOrders=true)(hc:fN hint ops=true)(ht:fH ops bs.length=true)(hx:vm hint ops bs a=true)(hB:Ext B H)(hBp:∀o,B[p]?=some o→o.live=false)
  (h:b6 P hint n ops a p bx B Q 0 bs ops.toList s H):dQ P hint n H0 (.region id ops true) Q s H:=by
 obtain⟨hms,htl⟩:=gL ht
 refine⟨hm,?_⟩
 obtain⟨rs,w,_,g2,g3,g4⟩:=mZ (dF hc).Mb s bs 0 (fun _=> .top) (fun _=>H) (by omega) h
 have g20:w 0=H:=g2 0 (Nat.le_refl _)
 simp only[Nat.zero_add,Nat.sub_zero,Nat.zero_le,true_implies]at g3 g4
 unfold vm at hx
 rw[Bool.and_eq_true,List.all_eq_true]at hx
 obtain⟨ha,hx⟩:=hx
 have ha:a<bs.length:=by simpa using ha
 have hget:∀i,i<bs.length→∃o,ops[i]?=some o:=fun i hi=>⟨ops[i]'(by omega),by simp[show i<ops.size by omega]⟩
 have hbs:∀i (hi:i<bs.length),bs[i]?=some bs[i]:=fun i hi=>List.getElem?_eq_getElem hi
 let T:Nat→Bool:=fun i=>i !=a&&bs[i]?==some (some true)
 have TT:∀i,T i=true→i≠a∧bs[i]?=some (some true):=fun i h=>by
  have h:(i !=a&&bs[i]?==some (some true))=true:=h
  simpa using h
 have TF:∀i,i<bs.length→i≠a→T i=false→bs[i]?=some (some false)∨bs[i]?=some none:=fun i hi hia h=>by
  have h:(i !=a&&bs[i]?==some (some true))=false:=h
  rw[hbs i hi]at h⊢
  rcases hb:bs[i]with _|_|_
  ·exact .inr rfl
  ·exact .inl rfl
  ·rw[hb]at h;simp[hia]at h
 have say:∀i o,i<bs.length→ops[i]?=some o→Am P hint n ops a p bx B bs[i]! i o (cd n ops s rs i) (rs i) (w i) (w (i+1)):=fun i o hi ho=>g3 i o _ hi ho (by rw[hbs i hi];simp[hi])
 have sayT:∀i o,i<bs.length→ops[i]?=some o→T i=true→di P hint n ops (w i) (cd n ops s rs i) o (rs i) (w (i+1))∧Ext B (w (i+1))∧(i<a→di P hint n ops ((w i).set p bx) (cd n ops s rs i) o (rs i) ((w (i+1)).set p bx)∧(w (i+1))[p]?=(w i)[p]?):=by
  intro i o hi ho hT
  obtain⟨h1,h2⟩:=TT i hT
  have:=g3 i o _ hi ho h2
  unfold Am at this
  rwa[if_neg h1]at this
 have sayF:∀i o,i<bs.length→ops[i]?=some o→bs[i]?=some (some false)→i≠a→di P hint n ops (w i) (cd n ops s rs i) o (rs i) (w i)∧w (i+1)=w i:=by
  intro i o hi ho h2 h1
  have:=g3 i o _ hi ho h2
  unfold Am at this
  rwa[if_neg h1]at this
 have sayN:∀i o,i<bs.length→ops[i]?=some o→bs[i]?=some none→i≠a→di P hint n ops B (cd n ops s rs i) o (rs i) B∧w (i+1)=w i:=by
  intro i o hi ho h2 h1
  have:=g3 i o _ hi ho h2
  unfold Am at this
  rwa[if_neg h1]at this
 obtain⟨oa,hoa⟩:=hget a ha
 have sayA:jb P hint p bx oa (w a)∧rs a= .ptr p 1 0 0∧w (a+1)=(w a).set p bx:=by
  have:=g3 a oa _ ha hoa (hbs a ha)
  unfold Am at this
  rwa[if_pos rfl]at this
 have stay:∀i,i<bs.length→i≠a→T i=false→w (i+1)=w i:=by
  intro i hi hia hT
  obtain⟨o,ho⟩:=hget i hi
  rcases TF i hi hia hT with h|h
  ·exact(sayF i o hi ho h hia).2
  ·exact(sayN i o hi ho h hia).2
 have hext:∀j,j≤bs.length→Ext B (w j)∧Ext B ((w j).set p bx):=by
  have key:∀H:aa,Ext B H→Ext B (H.set p bx):=fun H hE i o ho hl=>by
   by_cases e:i=p
   ·subst e;rw[hBp o ho]at hl;cases hl
   ·rw[List.getElem?_set_ne (Ne.symm e)];exact hE i o ho hl
  intro j
  induction j with
  |zero=>intro _;rw[g20];exact⟨hB,key _ hB⟩
  |succ j ih=>
   intro hj
   obtain⟨o,ho⟩:=hget j (by omega)
   by_cases hja:j=a
   ·subst hja
    rw[sayA.2.2]
    exact⟨(ih (by omega)).2,key _ (ih (by omega)).2⟩
   ·cases hT:T j with
    |true=>have:=(sayT j o (by omega) ho hT).2.1;exact⟨this,key _ this⟩
    |false=>rw[stay j (by omega) hja hT];exact ih (by omega)
 let u:Nat→aa:=fun i=>if i≤a then(w i).set p bx else w i
 have u1:∀i,i≤a→u i=(w i).set p bx:=fun i hi=>if_pos hi
 have u2:∀i,a<i→u i=w i:=fun i hi=>if_neg (by omega)
 have ustay:∀i,i<bs.length→T i=false→u (i+1)=u i:=by
  intro i hi hT
  rcases Nat.lt_trichotomy i a with h|h|h
  ·rw[u1 i (by omega),u1 (i+1) (by omega),stay i hi (by omega) hT]
  ·subst h;rw[u1 i (Nat.le_refl _),u2 (i+1) (by omega),sayA.2.2]
  ·rw[u2 i h,u2 (i+1) (by omega),stay i hi (by omega) hT]
 have chain:∀(f:Nat→aa) (N:Nat),(∀i,i<N→T i=false→f (i+1)=f i)→∀q i,q≤N→i≤N→(∀c,c<N→T c=true→(c<q↔c<i))→f q=f i:=by
  intro f N hf
  have up:∀d q,q+d≤N→(∀c,c<N→T c=true→(c<q↔c<q+d))→f (q+d)=f q:=by
   intro d
   induction d with
   |zero=>intros;rfl
   |succ d ihd=>
    intro q hq hcc
    have h1:T (q+d)=false:=by
     cases h:T (q+d)with
     |false=>rfl
     |true=>have:=(hcc (q+d) (by omega) h).2 (by omega);omega
    rw[←Nat.add_assoc,hf (q+d) (by omega) h1]
    exact ihd q (by omega) fun c hcm hct=>⟨fun h=>by omega,fun h=>(hcc c hcm hct).2 (by omega)⟩
  intro q i hq hi hcc
  rcases Nat.le_total q i with h|h
  ·obtain⟨d,rfl⟩:=Nat.exists_eq_add_of_le h
   exact(up d q hi hcc).symm
  ·obtain⟨d,rfl⟩:=Nat.exists_eq_add_of_le h
   exact up d i hq fun c hcm hct=>(hcc c hcm hct).symm
 have hsu:=chain u bs.length ustay
 have hsw:=chain w a fun i hi hT=>stay i (by omega) (by omega) hT
 have hole:∀j,j≤a→(w j)[p]?=(w 0)[p]?:=by
  intro j
  induction j with
  |zero=>intro _;rfl
  |succ j ih=>
   intro hj
   obtain⟨o,ho⟩:=hget j (by omega)
   cases hT:T j with
   |true=>rw[((sayT j o (by omega) ho hT).2.2 (by omega)).2];exact ih (by omega)
   |false=>rw[stay j (by omega) (by omega) hT];exact ih (by omega)
 have chk:∀i o,i<bs.length→ops[i]?=some o→T i=true→(i<a∨dG ops 12 i a=true)∧∀c,c<i→T c=true→dG ops 12 i c=true:=by
  intro i o hi ho hT
  obtain⟨h1,h2⟩:=TT i hT
  have:=hx i (List.mem_range.2 hi)
  rw[h2,ho]at this
  simp only[Bool.or_eq_true,beq_iff_eq,h1,false_or,Bool.and_eq_true,decide_eq_true_eq,List.all_eq_true]at this
  refine⟨this.1,fun c hci hct=>?_⟩
  obtain⟨h3,h4⟩:=TT c hct
  have:=this.2 c (List.mem_range.2 hci)
  rw[h4]at this
  simpa[h3]using this
 refine sP (dF hc) bs.length hms htl s rs (fun L G=>∃q,q≤bs.length∧(∀c,c<bs.length→T c=true→(L c=true↔c<q))∧((L a=true∧G=u q)∨(L a=false∧q≤a∧G=w q))) ?_ ?_ ?_ ops.size (Array.replicate ops.size false) s H (by simp) ?_ ?_ ?_ ?_ ?_ ⟨0,Nat.zero_le _,fun c hcm hct=>?_,.inr ⟨?_,Nat.zero_le _,g20.symm⟩⟩
 ·rintro L L' G hL ⟨q,h1,h2,h3⟩
  exact⟨q,h1,fun c hcm hct=>by rw[←hL c hcm];exact h2 c hcm hct,by rw[←hL a ha];exact h3⟩
 ·rintro L G i o ⟨q,hqm,hql,hG⟩ him hgo hun hcl hbi
  have hnew:∀c,c≠i→(if c=i then true else L c)=L c:=fun c hc=>if_neg hc
  by_cases hia:i=a
  ·subst hia
   rcases hG with⟨hL,_⟩|⟨_,hqa,rfl⟩
   ·rw[hL]at hun;cases hun
   have e:o=oa:=Option.some.inj (hgo.symm.trans hoa)
   subst e
   obtain⟨e,z,k,b,e',k1,k2,k3,k4,k5,k6,k7⟩:=sayA.1
   have hA:jb P hint p bx o (w q):=⟨e,z,k,b,e',k1,k2,k3,k4,k5,k6,by rw[hole q hqa,←hole i (Nat.le_refl _)];exact k7⟩
   refine⟨_,by rw[sayA.2.1];exact hA.step,q,hqm,fun c hcm hct=>?_,.inl ⟨by simp,(u1 q hqa).symm⟩⟩
   show(if c=i then true else L c)=true↔c<q
   rw[hnew c (TT c hct).1]
   exact hql c hcm hct
  ·have hLa:(if a=i then true else L a)=L a:=if_neg (Ne.symm hia)
   cases hT:T i with
   |false=>
    have hS:di P hint n ops G (cd n ops s rs i) o (rs i) G:=by
     have hfl:=hx i (List.mem_range.2 him)
     have hEx:Ext B G:=by
      rcases hG with⟨_,rfl⟩|⟨_,_,rfl⟩
      ·rcases Nat.lt_or_ge a q with h|h
       ·rw[u2 q h];exact(hext q hqm).1
       ·rw[u1 q h];exact(hext q hqm).2
      ·exact(hext q hqm).1
     rcases TF i him hia hT with hk|hk
     ·rw[hk,hgo]at hfl
      simp only[Bool.or_eq_true,beq_iff_eq,hia,false_or]at hfl
      exact fK hfl (fun hf=>by cases hf) (sayF i o him hgo hk hia).1
     ·rw[hk,hgo]at hfl
      simp only[Bool.or_eq_true,beq_iff_eq,hia,false_or]at hfl
      exact fK (first:=true) hfl (fun _=>hEx) (sayN i o him hgo hk hia).1
    refine⟨G,hS,q,hqm,fun c hcm hct=>?_,by simp only[hLa];exact hG⟩
    show(if c=i then true else L c)=true↔c<q
    rw[hnew c (by intro e;rw[e,hT]at hct;cases hct)]
    exact hql c hcm hct
   |true=>
    obtain⟨hra,hrc⟩:=chk i o him hgo hT
    have breach:∀c o',ops[c]?=some o'→(∀j,bM o' j=true→L j=true)→∀i',dG ops 12 c i'=true→L i'=true:=fun c o' hoc hb i' hr=>ir hcl 12 c o' hoc hb i' hr
    have hbef:∀c,c<bs.length→T c=true→(L c=true↔c<i):=by
     intro c hcm hct
     refine⟨fun hl=>?_,fun hlt=>breach i o hgo hbi c (hrc c hlt hct)⟩
     rcases Nat.lt_trichotomy c i with h|h|h
     ·exact h
     ·subst h;rw[hun]at hl;cases hl
     ·exfalso
      obtain⟨oc,hgc⟩:=hget c hcm
      have:=breach c oc hgc (fun j hj=>hcl c oc j hgc hl hj) i ((chk c oc hcm hgc hct).2 i h hT)
      rw[hun]at this
      cases this
    have heq:∀c,c<bs.length→T c=true→(c<q↔c<i):=fun c hcm hct=>(hql c hcm hct).symm.trans (hbef c hcm hct)
    have hq':∀c,c<bs.length→T c=true→((if c=i then true else L c)=true↔c<i+1):=fun c hcm hct=>by
     by_cases e:c=i
     ·subst e;simp
     ·rw[if_neg e]
      exact(hbef c hcm hct).trans ⟨fun h=>by omega,fun h=>by omega⟩
    obtain⟨s1,_,s3⟩:=sayT i o him hgo hT
    rcases hG with⟨hL,rfl⟩|⟨hL,hqa,rfl⟩
    ·have hu:=hsu q i hqm (by omega) heq
     rw[hu]
     rcases Nat.lt_or_ge i a with h|h
     ·refine⟨u (i+1),by rw[u1 i (by omega),u1 (i+1) (by omega)];exact(s3 h).1,i+1,by omega,hq',.inl ⟨by show(if a=i then true else L a)=true;rw[hLa];exact hL,rfl⟩⟩
     ·refine⟨u (i+1),by rw[u2 i (by omega),u2 (i+1) (by omega)];exact s1,i+1,by omega,hq',.inl ⟨by show(if a=i then true else L a)=true;rw[hLa];exact hL,rfl⟩⟩
    ·have hilt:i<a:=by
      rcases hra with h|h
      ·exact h
      ·have:=breach i o hgo hbi a h
       rw[hL]at this;cases this
     have hw:=hsw q i hqa (by omega) fun c hcm hct=>heq c (by omega) hct
     rw[hw]
     exact⟨_,s1,i+1,by omega,hq',.inr ⟨by show(if a=i then true else L a)=false;rw[hLa];exact hL,by omega,rfl⟩⟩
 ·rintro L G hall ⟨q,hqm,hql,hG⟩
  rcases hG with⟨_,rfl⟩|⟨hL,_⟩
  ·rw[hsu q bs.length hqm (Nat.le_refl _) fun c hcm hct=>⟨fun _=>hcm,fun _=>(hql c hcm hct).1 (hall c hcm)⟩,u2 _ ha]
   exact g4
  ·rw[hall a ha]at hL;cases hL
 ·exact Nat.le_trans List.countP_le_length (by simp)
 ·intro t j hj
  have hjl:=fW hj
  rw[if_neg (by simp[Array.getD,hjl])]
 ·intro t _;rfl
 ·intro j oj i hoj hl
  have hjl:=(Array.getElem?_eq_some_iff.1 hoj).1
  simp[Array.getD,hjl]at hl
 ·intro i hi hi2
  simp[Array.getD,hi2]
 ·have:c<ops.size:=by omega
  simp[Array.getD,this]
 ·simp[Array.getD,show a<ops.size by omega]
end
section
variable (P:Program) (hint:Nat→Bool) (n:Nat) (ops:Array Oper) (a p:Nat) (bx:aT) (B:aa) (Q:bH) (i:Nat) (bs:List (Option Bool)) (rest:List Oper) (s:Nat→AV) (H:aa)
def wL(d:Option Tmp)(H0:aa):AV→aa→Prop:=fun r H'=>H'=B∧b6 P hint n ops a p bx B Q (i+1) bs rest (cv n s d r) H0
def xu(d:Option Tmp)(H0:aa):AV→aa→Prop:=fun r H'=>H'=H0∧b6 P hint n ops a p bx B Q (i+1) bs rest (cv n s d r) H'
def pv(d:Option Tmp)(H0:aa)(r:AV)(H':aa):AV→aa→Prop:=fun r' H''=>r'=r∧H''=H'.set p bx∧H'[p]?=H0[p]?∧Ext B H'∧b6 P hint n ops a p bx B Q (i+1) bs rest (cv n s d r) H'
def pS(o:Oper)(H0:aa):AV→aa→Prop:=fun r H'=>if i<a then aN P hint s (H0.set p bx) o (pv P hint n ops a p bx B Q i bs rest s o.dst H0 r H') F3 else Ext B H'∧b6 P hint n ops a p bx B Q (i+1) bs rest (cv n s o.dst r) H'
theorem DK(d:Option Tmp)(H0:aa)(r:AV):wL P hint n ops a p bx B Q i bs rest s d H0 r H=(H=B∧b6 P hint n ops a p bx B Q (i+1) bs rest (cv n s d r) H0):=rfl
theorem FD(d:Option Tmp)(H0:aa)(r:AV):xu P hint n ops a p bx B Q i bs rest s d H0 r H=(H=H0∧b6 P hint n ops a p bx B Q (i+1) bs rest (cv n s d r) H):=rfl
theorem DV(d:Option Tmp)(H0:aa)(r:AV)(H':aa)(r':AV):pv P hint n ops a p bx B Q i bs rest s d H0 r H' r' H=(r'=r∧H=H'.set p bx∧H'[p]?=H0[p]?∧Ext B H'∧b6 P hint n ops a p bx B Q (i+1) bs rest (cv n s d r) H'):=rfl
theorem FI(d:Option Tmp)(op:Op)(ty:TypeId)(ps:String)(af:Array Edge)(g:Option (Nat×Bool))(H0:aa)(r:AV):pS P hint n ops a p bx B Q i bs rest s ⟨d,op,ty,ps,af,g⟩ H0 r H=(if i<a then aN P hint s (H0.set p bx) ⟨d,op,ty,ps,af,g⟩ (pv P hint n ops a p bx B Q i bs rest s d H0 r H) F3 else Ext B H∧b6 P hint n ops a p bx B Q (i+1) bs rest (cv n s d r) H):=rfl
theorem zX(l:List Oper):b6 P hint n ops a p bx B Q i [] l s H=bK P hint n ops Q l s H:=by cases l<;>rfl
theorem Cb(l:List Oper):b6 P hint n ops a p bx B Q i bs l.toArray.toList s H=b6 P hint n ops a p bx B Q i bs l s H:=rfl
theorem DP(d:Option Tmp)(op:Op)(ty:TypeId)(ps:String)(af:Array Edge):b6 P hint n ops a p bx B Q i (some false::bs) (⟨d,op,ty,ps,af,none⟩::rest) s H=if i=a then jb P hint p bx ⟨d,op,ty,ps,af,none⟩ H∧b6 P hint n ops a p bx B Q (i+1) bs rest (cv n s d (.ptr p 1 0 0)) (H.set p bx)else aN P hint s H ⟨d,op,ty,ps,af,none⟩ (xu P hint n ops a p bx B Q i bs rest s d H) F3:=by
 simp only[b6,ek]<;>rfl
theorem D9(d:Option Tmp)(op:Op)(ty:TypeId)(ps:String)(af:Array Edge):b6 P hint n ops a p bx B Q i (none::bs) (⟨d,op,ty,ps,af,none⟩::rest) s H=if i=a then jb P hint p bx ⟨d,op,ty,ps,af,none⟩ H∧b6 P hint n ops a p bx B Q (i+1) bs rest (cv n s d (.ptr p 1 0 0)) (H.set p bx)else aN P hint s B ⟨d,op,ty,ps,af,none⟩ (wL P hint n ops a p bx B Q i bs rest s d H) F3:=by
 simp only[b6,ek]<;>rfl
theorem Fa(d:Option Tmp)(op:Op)(ty:TypeId)(ps:String)(af:Array Edge):b6 P hint n ops a p bx B Q i (some true::bs) (⟨d,op,ty,ps,af,none⟩::rest) s H=if i=a then jb P hint p bx ⟨d,op,ty,ps,af,none⟩ H∧b6 P hint n ops a p bx B Q (i+1) bs rest (cv n s d (.ptr p 1 0 0)) (H.set p bx)else aN P hint s H ⟨d,op,ty,ps,af,none⟩ (pS P hint n ops a p bx B Q i bs rest s ⟨d,op,ty,ps,af,none⟩ H) F3:=by
 simp only[b6,true_and]
 by_cases h:i<a
 ·have e:pS P hint n ops a p bx B Q i bs rest s ⟨d,op,ty,ps,af,none⟩ H=fun r H'=>aN P hint s (H.set p bx) ⟨d,op,ty,ps,af,none⟩ (pv P hint n ops a p bx B Q i bs rest s d H r H') F3:=by
   funext r H';exact if_pos h
  rw[e,if_pos h];rfl
 ·have e:pS P hint n ops a p bx B Q i bs rest s ⟨d,op,ty,ps,af,none⟩ H=fun r H'=>Ext B H'∧b6 P hint n ops a p bx B Q (i+1) bs rest (cv n s d r) H':=by
   funext r H';exact if_neg h
  rw[e,if_neg h];rfl
end
section
variable {P:Program} {hint:Nat→Bool} {n:Nat} {ops:Array Oper} {a p:Nat} {bx:aT} {B:aa} {Q:bH} {i:Nat} {bs:List (Option Bool)} {rest:List Oper} {s:Nat→AV}
@[congr] theorem MN {l:List Oper} {H H':aa} (h:nf H=H'):b6 P hint n ops a p bx B Q i bs l s H=b6 P hint n ops a p bx B Q i bs l s H':=by rw[←h];rfl
@[congr] theorem Ln {d:Option Tmp} {H0 H H':aa} {r r':AV} (g:nf r=r') (h:nf H=H'):wL P hint n ops a p bx B Q i bs rest s d H0 r H=wL P hint n ops a p bx B Q i bs rest s d H0 r' H':=by rw[←g,←h];rfl
@[congr] theorem Lh {d:Option Tmp} {H0 H H':aa} {r r':AV} (g:nf r=r') (h:nf H=H'):xu P hint n ops a p bx B Q i bs rest s d H0 r H=xu P hint n ops a p bx B Q i bs rest s d H0 r' H':=by rw[←g,←h];rfl
@[congr] theorem Ll {d:Option Tmp} {H0 H1 H H':aa} {r0 r r':AV} (g:nf r=r') (h:nf H=H'):pv P hint n ops a p bx B Q i bs rest s d H0 r0 H1 r H=pv P hint n ops a p bx B Q i bs rest s d H0 r0 H1 r' H':=by rw[←g,←h];rfl
@[congr] theorem Li {o:Oper} {H0 H H':aa} {r r':AV} (g:nf r=r') (h:nf H=H'):pS P hint n ops a p bx B Q i bs rest s o H0 r H=pS P hint n ops a p bx B Q i bs rest s o H0 r' H':=by rw[←g,←h];rfl
end
attribute [go_sem] DK FD DV FI zX Cb DP D9 Fa
end Go.Proofs.YtmbagpfmfiegkaaGreatAw
namespace Go.Proofs.YtmbagpfmfiegkaaGreat
open Go.Proofs.YtmbagpfmfiegkaaGreatAw Go.RowKit
noncomputable def gj(b:List Nat)(n k w:Int):List aq×Int:=
 if w=1 then de b n k else if w=2 then fU b n k else if w=3 then fT b n k
 else if w=4∧k=1 then((mW b n).1.getD [],(mW b n).2)else([],1)
noncomputable def dr(s:Sg):List aq×Int:=
 if(gj s.body ((s.aU.rows:Int)-(aC s.aA:Int)) s.kind s.bf).2≠0∨s.aA=[]then gj s.body ((s.aU.rows:Int)-(aC s.aA:Int)) s.kind s.bf
 else fl s.aA (gj s.body ((s.aU.rows:Int)-(aC s.aA:Int)) s.kind s.bf).1
theorem oT(k:Int)(H:aa)(o1 o2:aT):ag Tryz.prog 46 [iA k] (H++[o1,o2]) (.ok (.mp (H.length+3))) (H++[o1,o2,kB k,.mp .i64 (jx (H.length+2) k)]):=by
 have h:=gB k (H++[o1,o2])
 rw[List.length_append,List.append_assoc]at h
 exact h
theorem Lr(H:aa)(o:aT)(T:aa):Ext (H++[o]) (H++o::T)=True:=eq_true (by have:=Ext.app (H++[o]) T;rwa[List.append_assoc]at this)
theorem Bb(s:Sg)(f1 f2:FuncId)(c1 c2:List AV)(L:List aq)(e:Int)(H:aa)(hr:s.aU.rows≤1000000)(hn:s.aA.length≤1000000)(hL:L.length≤1000000000)
  (hg:gQ s.bf (jx (H.length+2) s.kind)=some (.agg [.fn f1 c1,.fn f2 c2]))
  (hd:∀G:aa,G[H.length+2]?=some (kB s.kind)→ag Tryz.prog f2 ([.d (.list false (aD s.body)),iA ((s.aU.rows:Int)-(aC s.aA:Int))]++c2) G (.ok (.bz [.d (.list false (L.map aq.enc)),iA e])) G):
  ag Tryz.prog 21 [.agg s.cs] H (.ok (if e≠0∨s.aA=[]then .bz [.d (.list false (L.map aq.enc)),iA e]else .bz [.d (.list false ((fl s.aA L).1.map aq.enc)),iA (fl s.aA L).2])) H:=by
 obtain⟨k,w,⟨zr,zn,zmn,zmx⟩,ns,b⟩:=s
 simp only at hg hd hr hn⊢
 have hcn:=fun G=>rC ns false (by omega) G
 have hcl:=ef ns
 have hwr:IntKind.i64.wrap ((zr:Int)-(aC ns:Int))=(zr:Int)-(aC ns:Int):=wrap64_in _ (by omega) (by omega)
 unfold Sg.cs
 have hc:=oT k H
 have hE:=Lr H
 have hd1:=hd
 refine ag.aj (hint:=(fun t=>t==4||t==1000001)) Tryz.func21 (by kernel_rfl) rfl [2,3] (by kernel_rfl) (by decide) (by simp[Tryz.ntmps21]) ?_
 rw[Tryz.ntmps21]
 simp -implicitDefEqProofs only[↓reduceIte,go_sem,Nat.reduceAdd,Nat.reduceLT,Nat.reduceBEq]
 have hti:TI Tryz.prog 97=some ((.agg #[.nilFunc,.nilFunc]:Value),2,16):=by kernel_rfl
 refine⟨_,_,ay.db _ _ 2 97 2 (by decide) (by simp -implicitDefEqProofs only[↓reduceIte,go_sem,Nat.reduceLT,Nat.reduceEqDiff]) _,?_⟩
 simp -implicitDefEqProofs only[go_sem]
 refine mK [none,none,some true,none,none,some true,some false,some false,some false,some false,some true] 9 (H.length+1) (.box 97 2 1 1 [.d (.v .nilFunc),.d (.v .nilFunc)]) (H++[.box 30 12 0 1 [iA k,iA w,iA zr,iA zn,iA zmn.kind,iA zmn.i,sA zmn.s,iA zmx.kind,iA zmx.i,sA zmx.s,.d (.list false (bF ns)),.d (.list false (aD b))]]) K.mixed (by kernel_rfl) (by kernel_rfl) (by kernel_rfl) ?_ ?_ ?_
 ·rw[hE];trivial
 ·intro o ho
  simp at ho
 simp -implicitDefEqProofs only[↓reduceIte,go_sem,ah,Nat.reduceAdd,Nat.reduceLT,Nat.reduceLeDiff,Nat.reduceEqDiff,reduceCtorEq]
 refine ae.ok (hc _ _) ?_
 simp -implicitDefEqProofs only[↓reduceIte,go_sem,Nat.reduceAdd,Nat.reduceLT]
 refine ae.ok (hc _ _) ?_
 simp -implicitDefEqProofs only[↓reduceIte,go_sem,ah,au,Nat.reduceAdd,Nat.reduceLT,Nat.reduceLeDiff,Nat.reduceEqDiff,Nat.reduceBEq,hE,hg,Option.getD_some,Option.isSome_some]
 refine⟨⟨_,_,_,_,97,rfl,rfl,hti,⟨by decide,by kernel_rfl,by kernel_rfl⟩,rfl,rfl,by simp -implicitDefEqProofs only[go_sem]⟩,?_⟩
 refine dK [none,none,none,none,none,none,none,none,none,some true,some false,some true,some false,some false,some false,some false] 9 _ K.mixed (by kernel_rfl) (by kernel_rfl) (by kernel_rfl) (Ext.refl _) ?_
 simp -implicitDefEqProofs only[↓reduceIte,go_sem,ah,Nat.reduceAdd,Nat.reduceLT,Nat.reduceLeDiff,Nat.reduceEqDiff]
 refine ae.ok (hcn _) ?_
 simp -implicitDefEqProofs only[↓reduceIte,go_sem,Nat.reduceLT,Nat.reduceEqDiff,hwr]
 refine ae.ok (hd _ (by simp -implicitDefEqProofs only[go_sem])) ?_
 by_cases he:e=0
 ·by_cases h0:ns=[]
  ·rw[if_pos (.inr h0)]
   subst h0
   simp -implicitDefEqProofs only[↓reduceIte,go_sem,ah,Nat.reduceAdd,Nat.reduceLT,Nat.reduceLeDiff,Nat.reduceEqDiff,Nat.reduceBEq,reduceCtorEq,he,bP]
   refine aw.ret ?_
   simp -implicitDefEqProofs only[↓reduceIte,go_sem,Nat.reduceLT,Nat.reduceEqDiff,he]
  ·rw[if_neg (fun h=>h.elim (fun h=>h he) h0)]
   have hj:=fun H=>Fi ns L hn hL H
   have hnl:((ns.length:Int)=0)=False:=eq_false (by have:=List.length_pos_iff.2 h0;omega)
   simp -implicitDefEqProofs only[↓reduceIte,go_sem,ah,Nat.reduceAdd,Nat.reduceLT,Nat.reduceLeDiff,Nat.reduceEqDiff,Nat.reduceBEq,reduceCtorEq,he,bP,hnl]
   refine ae.ok (hj _) ?_
   simp -implicitDefEqProofs only[↓reduceIte,go_sem,Nat.reduceLT,Nat.reduceEqDiff]
   refine aw.ret ?_
   simp -implicitDefEqProofs only[↓reduceIte,go_sem,Nat.reduceLT,Nat.reduceEqDiff]
 ·rw[if_pos (.inl he)]
  simp -implicitDefEqProofs only[↓reduceIte,go_sem,Nat.reduceAdd,Nat.reduceLT,Nat.reduceEqDiff,Nat.reduceBEq,he]
  refine aw.ret ?_
  simp -implicitDefEqProofs only[↓reduceIte,go_sem,Nat.reduceLT,Nat.reduceEqDiff]
theorem CG(s:Sg)(H:aa)(hg:gQ s.bf (jx (H.length+2) s.kind)=none):
  ag Tryz.prog 21 [.agg s.cs] H (.ok (.bz [.d (.v (.slice none 0 0)),iA 1])) H:=by
 obtain⟨k,w,⟨zr,zn,zmn,zmx⟩,ns,b⟩:=s
 simp only at hg
 unfold Sg.cs
 have hc:=oT k H
 have hE:=Lr H
 refine ag.aj (hint:=(fun t=>t==4||t==1000001)) Tryz.func21 (by kernel_rfl) rfl [2,3] (by kernel_rfl) (by decide) (by simp[Tryz.ntmps21]) ?_
 rw[Tryz.ntmps21]
 simp -implicitDefEqProofs only[↓reduceIte,go_sem,Nat.reduceAdd,Nat.reduceLT,Nat.reduceBEq]
 have hti:TI Tryz.prog 97=some ((.agg #[.nilFunc,.nilFunc]:Value),2,16):=by kernel_rfl
 refine⟨_,_,ay.db _ _ 2 97 2 (by decide) (by simp -implicitDefEqProofs only[↓reduceIte,go_sem,Nat.reduceLT,Nat.reduceEqDiff]) _,?_⟩
 simp -implicitDefEqProofs only[go_sem]
 refine mK [none,none,some true,none,none,some true,some false,some false,some false,some false,some true] 9 (H.length+1) (.box 97 2 1 1 [.d (.v .nilFunc),.d (.v .nilFunc)]) (H++[.box 30 12 0 1 [iA k,iA w,iA zr,iA zn,iA zmn.kind,iA zmn.i,sA zmn.s,iA zmx.kind,iA zmx.i,sA zmx.s,.d (.list false (bF ns)),.d (.list false (aD b))]]) K.mixed (by kernel_rfl) (by kernel_rfl) (by kernel_rfl) ?_ ?_ ?_
 ·rw[hE];trivial
 ·intro o ho
  simp at ho
 simp -implicitDefEqProofs only[↓reduceIte,go_sem,ah,Nat.reduceAdd,Nat.reduceLT,Nat.reduceLeDiff,Nat.reduceEqDiff,reduceCtorEq]
 refine ae.ok (hc _ _) ?_
 simp -implicitDefEqProofs only[↓reduceIte,go_sem,Nat.reduceAdd,Nat.reduceLT]
 refine ae.ok (hc _ _) ?_
 simp -implicitDefEqProofs only[↓reduceIte,go_sem,ah,au,Nat.reduceAdd,Nat.reduceLT,Nat.reduceLeDiff,Nat.reduceEqDiff,Nat.reduceBEq,hE,hg,Option.getD_none,Option.isSome_none]
 refine⟨⟨_,_,_,_,97,rfl,rfl,hti,⟨by decide,by kernel_rfl,by kernel_rfl⟩,rfl,rfl,by simp -implicitDefEqProofs only[go_sem]⟩,?_⟩
 refine aw.ret ?_
 simp -implicitDefEqProofs only[↓reduceIte,go_sem,Nat.reduceLT,Nat.reduceEqDiff]
theorem Fx(s:Sg)(hr:s.aU.rows≤1000000)(hn:s.aA.length≤1000000)(hb:∀c∈s.body,c<256)(hl:s.body.length≤140737488351232)(H:aa)(hL:(gj s.body ((s.aU.rows:Int)-(aC s.aA:Int)) s.kind s.bf).1.length≤1000000000):
  ag Tryz.prog 21 [.agg s.cs] H (.ok (.bz [.d (.list false ((dr s).1.map aq.enc)),iA (dr s).2])) H:=by
 have hg:=rQ (H.length+2) s.kind s.bf
 unfold wQ at hg
 unfold dr
 have key:∀(f1 f2:FuncId) (c1 c2:List AV),gQ s.bf (jx (H.length+2) s.kind)=some (.agg [.fn f1 c1,.fn f2 c2])→
   (∀G:aa,G[H.length+2]?=some (kB s.kind)→ag Tryz.prog f2 ([.d (.list false (aD s.body)),iA ((s.aU.rows:Int)-(aC s.aA:Int))]++c2) G (.ok (.bz [.d (.list false ((gj s.body ((s.aU.rows:Int)-(aC s.aA:Int)) s.kind s.bf).1.map aq.enc)),iA (gj s.body ((s.aU.rows:Int)-(aC s.aA:Int)) s.kind s.bf).2])) G)→
   ag Tryz.prog 21 [.agg s.cs] H (.ok (.bz [.d (.list false ((if(gj s.body ((s.aU.rows:Int)-(aC s.aA:Int)) s.kind s.bf).2≠0∨s.aA=[]then gj s.body ((s.aU.rows:Int)-(aC s.aA:Int)) s.kind s.bf
    else fl s.aA (gj s.body ((s.aU.rows:Int)-(aC s.aA:Int)) s.kind s.bf).1).1.map aq.enc)),iA (if(gj s.body ((s.aU.rows:Int)-(aC s.aA:Int)) s.kind s.bf).2≠0∨s.aA=[]then gj s.body ((s.aU.rows:Int)-(aC s.aA:Int)) s.kind s.bf
    else fl s.aA (gj s.body ((s.aU.rows:Int)-(aC s.aA:Int)) s.kind s.bf).1).2])) H:=by
  intro f1 f2 c1 c2 h1 h2
  have h:=Bb s f1 f2 c1 c2 _ _ H hr hn hL h1 h2
  by_cases c:(gj s.body ((s.aU.rows:Int)-(aC s.aA:Int)) s.kind s.bf).2≠0∨s.aA=[]
  ·rw[if_pos c]at h;rw[if_pos c];exact h
  ·rw[if_neg c]at h;rw[if_neg c];exact h
 by_cases h1:s.bf=1
 ·rw[if_pos h1]at hg
  refine key _ _ _ _ hg fun G hG=>?_
  rw[show gj s.body ((s.aU.rows:Int)-(aC s.aA:Int)) s.kind s.bf=_ from if_pos h1]
  exact ub _ _ _ hl hb G _ hG
 by_cases h2:s.bf=2
 ·rw[if_neg h1,if_pos h2]at hg
  refine key _ _ _ _ hg fun G hG=>?_
  rw[show gj s.body ((s.aU.rows:Int)-(aC s.aA:Int)) s.kind s.bf=_ from(if_neg h1).trans (if_pos h2)]
  exact Ae _ _ _ hl hb G _ hG
 by_cases h3:s.bf=3
 ·rw[if_neg h1,if_neg h2,if_pos h3]at hg
  refine key _ _ _ _ hg fun G hG=>?_
  rw[show gj s.body ((s.aU.rows:Int)-(aC s.aA:Int)) s.kind s.bf=_ from(if_neg h1).trans ((if_neg h2).trans (if_pos h3))]
  exact vL _ _ _ hl hb G _ hG
 by_cases h4:s.bf=4∧s.kind=1
 ·rw[if_neg h1,if_neg h2,if_neg h3,if_pos h4]at hg
  refine key _ _ _ _ hg fun G hG=>?_
  rw[show gj s.body ((s.aU.rows:Int)-(aC s.aA:Int)) s.kind s.bf=_ from(if_neg h1).trans ((if_neg h2).trans ((if_neg h3).trans (if_pos h4)))]
  have h:=Jr s.body ((s.aU.rows:Int)-(aC s.aA:Int)) false hl hb G
  simp only[List.append_nil]
  generalize mW s.body ((s.aU.rows:Int)-(aC s.aA:Int))=q at*
  obtain⟨o,e⟩:=q
  cases o with
  |none=>exact ag.bE h (.cons .nil (.cons (.refl _) .nil))
  |some l=>exact h
 ·rw[if_neg h1,if_neg h2,if_neg h3,if_neg h4]at hg
  have h:=CG s H hg
  have e:gj s.body ((s.aU.rows:Int)-(aC s.aA:Int)) s.kind s.bf=([],1):=(if_neg h1).trans ((if_neg h2).trans ((if_neg h3).trans (if_neg h4)))
  rw[e,if_pos (.inl (by decide))]
  exact ag.bE h (.cons .nil (.cons (.refl _) .nil))
theorem kD(n:Int):∃q:Int,IntKind.i64.wrap n=n+q* 18446744073709551616:=by
 have h1:=Int.emod_add_mul_ediv n 18446744073709551616
 simp only[IntKind.wrap,IntKind.signed,IntKind.bits]
 simp only[show((2:Int)^64)=18446744073709551616 from rfl,show((2:Int)^(64-1))=9223372036854775808 from rfl]
 by_cases h:n%18446744073709551616≥9223372036854775808
 ·refine⟨-(n/18446744073709551616)-1,?_⟩
  simp only[h,decide_true,Bool.true_and,if_true]
  omega
 ·refine⟨-(n/18446744073709551616),?_⟩
  simp only[h,decide_false,Bool.and_false,Bool.false_eq_true,if_false]
  omega
theorem qM(u:Nat):dP (dP u)=dP u:=by
 unfold dP
 by_cases h:xn u=true
 ·rw[if_pos h];decide
 ·rw[if_neg h,if_neg h]
theorem pA(u:Nat)(h:u<18446744073709551616):ea (dR u)=dP u:=by
 have hl:=kq u h
 have hi:=qM u
 unfold dR
 generalize dP u=c at*
 unfold ea
 by_cases h1:9223372036854775808≤c
 ·rw[if_pos h1,if_neg (by omega),show 18446744073709551615-(18446744073709551615-c)=c by omega,hi]
 ·rw[if_neg h1,if_pos (by omega),show c+9223372036854775808-9223372036854775808=c by omega,hi]
theorem w9{i:Int}(h:eJ i):CR (iW i)=i:=by
 obtain⟨h1,h2⟩:=h
 unfold CR
 obtain⟨q,hq⟩:=kD ((iW i:Nat):Int)
 have hr:=dY ((iW i:Nat):Int)
 have ht:((iW i:Nat):Int)=i%18446744073709551616:=by unfold iW;omega
 omega
theorem CO{n:Nat}(h:n<18446744073709551616):iW (CR n)=n:=by
 unfold CR
 obtain⟨q,hq⟩:=kD (n:Int)
 rw[hq]
 unfold iW
 omega
theorem I7(n:Nat):eJ (CR n):=dY _
theorem HB(n:Nat)(hn:n<18446744073709551616):∀k,k≤8→gR ((nt n).take k)=n/256^(8-k):=by
 intro k
 induction k with
 |zero=>intro _;rw[List.take_zero];exact(Nat.div_eq_of_lt hn).symm
 |succ k ih=>
  intro hk
  rw[yG n k (by omega),iG,ih (by omega),show 8-k=(7-k)+1 by omega,show 8-(k+1)=7-k by omega,Nat.pow_succ,←Nat.div_div_eq_div_mul]
  omega
theorem Da(n:Nat)(hn:n<18446744073709551616):gR (nt n)=n:=by
 have h:=HB n hn 8 (Nat.le_refl _)
 rw[List.take_of_length_le (by rw[fZ];exact Nat.le_refl _)]at h
 rw[h];simp
theorem I9:∀(k:Nat) (l m:List Nat),l.length=k→m.length=k→cb l→cb m→gR l=gR m→l=m:=by
 intro k
 induction k with
 |zero=>intro l m h1 h2 _ _ _;rw[List.length_eq_zero_iff.1 h1,List.length_eq_zero_iff.1 h2]
 |succ k ih=>
  intro l m h1 h2 b1 b2 h
  have n1:l≠[]:=fun e=>by rw[e]at h1;simp at h1
  have n2:m≠[]:=fun e=>by rw[e]at h2;simp at h2
  rw[←List.dropLast_concat_getLast n1,←List.dropLast_concat_getLast n2,iG,iG]at h
  have c1:=b1 _ (List.getLast_mem n1)
  have c2:=b2 _ (List.getLast_mem n2)
  have e1:=ih l.dropLast m.dropLast (by simp[h1]) (by simp[h2]) (fun c hc=>b1 c (List.dropLast_subset l hc)) (fun c hc=>b2 c (List.dropLast_subset m hc)) (by omega)
  rw[←List.dropLast_concat_getLast n1,←List.dropLast_concat_getLast n2,e1,show l.getLast n1=m.getLast n2 by omega]
theorem yZ(n:Nat):cb (nt n):=fun c hc=>by
 unfold nt at hc
 obtain⟨i,_,rfl⟩:=List.mem_map.1 hc
 exact Nat.mod_lt _ (by decide)
theorem I4{l:List Nat}(hl:l.length=8)(hb:cb l):nt (gR l)=l:=by
 have hlt:gR l<18446744073709551616:=p6 8 l hl hb
 exact I9 8 _ _ (fZ _) hl (yZ _) hb (Da _ hlt)
theorem yd(s:ByteArray):lL (fS s)=s:=by
 apply toList_inj
 rw[ji,fS,List.map_map,ByteArray.toList_eq]
 conv=>rhs;rw[←List.map_id s.data.toList]
 apply List.map_congr_left
 intro x _
 simp
theorem mc{t:List Nat}(h:cb t):fS (lL t)=t:=by
 have hl:=ji t
 rw[ByteArray.toList_eq]at hl
 unfold fS
 rw[hl,List.map_map]
 conv=>rhs;rw[←List.map_id t]
 apply List.map_congr_left
 intro x hx
 have:=h x hx
 simp[Nat.mod_eq_of_lt this]
theorem Fc(n:Nat)(h:n<18446744073709551616)(r:List Nat):dV 10 0 (bp n++r)=(.ok n,r):=by
 have:=Ac 9 0 n r (Nat.le_refl _) (by simpa using h) (.inl (Nat.le_refl _))
 simpa using this
theorem BE(s:ByteArray)(hs:s.size≤1024)(r:List Nat):ck (kE s++r) 1024=(fS s,r,0):=by
 unfold ck kE
 have hl:=hH s
 rw[List.append_assoc,Fc _ (by omega)]
 simp only
 rw[if_neg (by omega),if_neg (by rw[List.length_append];omega),←hl,List.take_left,List.drop_left]
theorem Ez{b t r:List Nat}(hb:cb b)(h:ck b 1024=(t,r,0)):b=kE (lL t)++r∧t.length≤1024∧cb t:=by
 unfold ck at h
 split at h
 ·rename_i n rr hn
  obtain⟨m,hm,he,_⟩:=sy 9 0 b rr n hb (Nat.le_refl _) hn
  have he':n=m:=by simpa using he
  subst he'
  split at h
  ·simp at h
  split at h
  ·simp at h
  rename_i h1 h2
  simp only[Prod.mk.injEq,and_true]at h
  obtain⟨rfl,rfl⟩:=h
  have hrb:cb rr:=fun c hc=>hb c (by rw[hm];exact List.mem_append_right _ hc)
  have htb:cb (rr.take n):=fun c hc=>hrb c (List.mem_of_mem_take hc)
  have hsz:(lL (rr.take n)).size=n:=by
   rw[←hH,mc htb,List.length_take];omega
  refine⟨?_,by rw[List.length_take];omega,htb⟩
  unfold kE
  rw[hsz,mc htb,List.append_assoc,List.take_append_drop]
  exact hm
 ·rename_i e rr hn
  simp only[Prod.mk.injEq]at h
  exact absurd h.2.2 (oH 10 0 b rr e hn)
theorem fD(k:Int):bJ k=true↔k=1∨k=2∨k=3:=by unfold bJ;simp;omega
theorem mf{v:aq}(h:v.kind=1):cA v=true↔v.s=cP:=by
 unfold cA
 rw[if_neg (by omega),if_pos h,decide_eq_true_eq,iJ]
theorem oP{v:aq}(h:v.kind=2):cA v=true↔iW v.i=dP (iW v.i)∧v.s=cP:=by
 unfold cA
 rw[if_pos h,Bool.and_eq_true,decide_eq_true_eq,decide_eq_true_eq,iJ]
theorem kO{v:aq}(h:v.kind=3):cA v=true↔v.i=0∧v.s.size≤1024:=by
 unfold cA
 rw[if_neg (by omega),if_neg (by omega),if_pos h,Bool.and_eq_true,decide_eq_true_eq,decide_eq_true_eq]
theorem lz{a b:aq}(h1:a.kind=b.kind)(h2:a.i=b.i)(h3:a.s=b.s):a=b:=by
 cases a;cases b;simp only at h1 h2 h3;subst h1 h2 h3;rfl
theorem rh{v:aq}(r:List Nat)(hi:eJ v.i)(hm:cA v=true)(hk:bJ v.kind=true):ej (cW v++r) v.kind=(v,r,0):=by
 rcases(fD _).1 hk with h|h|h
 ·have hs:=(mf h).1 hm
  unfold ej cW
  rw[h]
  simp only[if_true,show((1:Int)=0)=False from by simp,if_false]
  rw[gN _ (gM hi.1 hi.2)]
  simp only[if_true]
  rw[wN _ hi,List.drop_left]
  rw[show cG v.i=v from lz h.symm rfl hs.symm]
 ·obtain⟨hc,hs⟩:=(oP h).1 hm
  have hu:=im v.i
  have hk:=xt _ hu
  have hbl:=fZ (dR (iW v.i))
  have ht:(nt (dR (iW v.i))++r).take 8=nt (dR (iW v.i)):=List.take_left' hbl
  have hd:(nt (dR (iW v.i))++r).drop 8=r:=List.drop_left' hbl
  unfold ej cW
  rw[h]
  simp only[if_true,show((2:Int)=0)=False from by simp,show((2:Int)=1)=False from by simp,if_false]
  unfold hZ
  rw[if_neg (by rw[List.length_append,hbl];omega),ht,hd,Da _ hk,pA _ hu,←hc,if_pos rfl,w9 hi]
  rw[show(⟨2,v.i,cP⟩:aq)=v from lz h.symm rfl hs.symm]
 ·obtain⟨h0,hsz⟩:=(kO h).1 hm
  unfold ej cW
  rw[h]
  simp only[if_true,show((3:Int)=0)=False from by simp,show((3:Int)=1)=False from by simp,show((3:Int)=2)=False from by simp,if_false]
  rw[BE v.s hsz]
  simp only[if_true]
  rw[yd,show(⟨3,0,v.s⟩:aq)=v from lz h.symm h0.symm rfl]
theorem zP{b r:List Nat}{k:Int}{v:aq}(hb:cb b)(hk:bJ k=true)(h:ej b k=(v,r,0)):b=cW v++r∧cA v=true∧v.kind=k∧eJ v.i:=by
 rcases(fD _).1 hk with rfl|rfl|rfl
 ·unfold ej at h
  rw[if_neg (by decide),if_pos rfl]at h
  split at h
  ·rename_i he
   simp only[Prod.mk.injEq,and_true]at h
   obtain⟨rfl,rfl⟩:=h
   rcases hg:aQ b with⟨n,j,e⟩
   rw[hg]at he
   simp only at he
   subst he
   have hn:n<18446744073709551616:=by have:=fh b;rw[hg]at this;exact this
   obtain⟨hj,hbe⟩:=gW hb hg
   refine⟨?_,xM _,rfl,o9 n hn⟩
   rw[show cW (cG (dA n))=bp (fj (dA n))from if_pos rfl,v7 n hn]
   exact hbe
  ·rename_i he
   simp only[Prod.mk.injEq]at h
   exact absurd h.2.2 he
 ·unfold ej at h
  rw[if_neg (by decide),if_neg (by decide),if_pos rfl]at h
  unfold hZ at h
  split at h
  ·simp at h
  rename_i h8
  split at h
  ·rename_i hkey
   simp only[Prod.mk.injEq,and_true]at h
   obtain⟨rfl,rfl⟩:=h
   have h8l:(b.take 8).length=8:=by rw[List.length_take];omega
   have h8b:cb (b.take 8):=fun c hc=>hb c (List.mem_of_mem_take hc)
   have hlt:gR (b.take 8)<18446744073709551616:=p6 8 _ h8l h8b
   have hul:=pP hlt
   have hcl:ea (gR (b.take 8))=dP (ea (gR (b.take 8))):=by
    unfold ea
    split<;>rw[qM]
   refine⟨?_,(oP rfl).2 ⟨?_,rfl⟩,rfl,I7 _⟩
   ·rw[show cW ⟨2,CR (ea (gR (b.take 8))),cP⟩=nt (dR (iW (CR (ea (gR (b.take 8))))))from rfl,CO hul,hkey,I4 h8l h8b,List.take_append_drop]
   ·show iW (CR _)=dP (iW (CR _))
    rw[CO hul]
    exact hcl
  ·simp at h
 ·unfold ej at h
  rw[if_neg (by decide),if_neg (by decide),if_neg (by decide),if_pos rfl]at h
  split at h
  ·rename_i he
   simp only[Prod.mk.injEq,and_true]at h
   obtain⟨rfl,rfl⟩:=h
   rcases ht:ck b 1024 with⟨t,rr,e⟩
   rw[ht]at he
   simp only at he
   subst he
   obtain⟨h1,h2,h3⟩:=Ez hb ht
   refine⟨h1,(kO rfl).2 ⟨rfl,?_⟩,rfl,by unfold eJ;simp⟩
   show(lL t).size≤1024
   rw[←hH,mc h3]
   exact h2
  ·rename_i he
   simp only[Prod.mk.injEq]at h
   exact absurd h.2.2 he
theorem Ii{a b:aq}(ha:cA a=true)(hb:cA b=true)(hk:a.kind=b.kind)(hkk:bJ a.kind=true)(ia:eJ a.i)(ib:eJ b.i)(h:aM a b=0):a=b:=by
 unfold aM at h
 rw[if_neg (by simpa using hk)]at h
 rcases(fD _).1 hkk with k|k|k
 ·rw[if_pos k]at h
  exact lz hk (kJ.1 h) (((mf k).1 ha).trans ((mf (hk▸k)).1 hb).symm)
 ·rw[if_neg (by omega),if_pos k]at h
  obtain⟨c1,s1⟩:=(oP k).1 ha
  obtain⟨c2,s2⟩:=(oP (hk▸k)).1 hb
  have hkey:dR (iW a.i)=dR (iW b.i):=by
   unfold yk eZ at h
   by_cases h1:dR (iW a.i)<dR (iW b.i)
   ·simp[h1]at h
   ·by_cases h2:dR (iW b.i)<dR (iW a.i)
    ·simp[h1,h2]at h
    ·omega
  have e:iW a.i=iW b.i:=by
   rw[c1,c2,←pA _ (im a.i),←pA _ (im b.i),hkey]
  exact lz hk (by rw[←w9 ia,←w9 ib,e]) (s1.trans s2.symm)
 ·rw[if_neg (by omega),if_neg (by omega),if_pos k]at h
  exact lz hk ((((kO k).1 ha).1).trans (((kO (hk▸k)).1 hb).1).symm) (Eh.1 h)
def iC(k:Int)(v:aq):Prop:=cA v=true∧v.kind=k∧eJ v.i
theorem py{k:Int}(hk:bJ k=true):∀(W:List aq) (r:List Nat),(∀v∈W,iC k v)→aX k W.length (aY W++r)=(W,r,0)
 |[],r,_=>rfl
 |v::W,r,h=>by
  obtain⟨h1,h2,h3⟩:=h v (by simp)
  have e:aY (v::W)++r=cW v++(aY W++r):=by simp[aY]
  have ho:=rh (v:=v) (aY W++r) h3 h1 (by rw[h2];exact hk)
  rw[h2]at ho
  rw[e,List.length_cons]
  unfold aX
  rw[ho]
  simp only[if_true]
  rw[py hk W r fun x hx=>h x (by simp[hx])]
  simp
theorem nR{k:Int}(hk:bJ k=true):∀(n:Nat) (b:List Nat) (W:List aq) (r:List Nat),cb b→aX k n b=(W,r,0)→b=aY W++r∧∀v∈W,iC k v
 |0,b,W,r,_,h=>by
  simp only[aX,Prod.mk.injEq,and_true]at h
  obtain⟨rfl,rfl⟩:=h
  exact⟨by simp[aY],by simp⟩
 |n+1,b,W,r,hb,h=>by
  unfold aX at h
  rcases hv:ej b k with⟨v,c,e⟩
  rw[hv]at h
  simp only at h
  split at h
  ·rename_i he
   subst he
   obtain⟨h1,h2,h3,h4⟩:=zP hb hk hv
   rcases hr:aX k n c with⟨W',r',f⟩
   rw[hr]at h
   simp only at h
   split at h
   ·rename_i hf
    subst hf
    simp only[Prod.mk.injEq,and_true]at h
    obtain⟨rfl,rfl⟩:=h
    have hc:cb c:=fun x hx=>hb x (by rw[h1];exact List.mem_append_right _ hx)
    obtain⟨g1,g2⟩:=nR hk n c W' r' hc hr
    refine⟨?_,?_⟩
    ·rw[h1,g1];simp[aY]
    ·intro x hx
     rcases List.mem_cons.1 hx with rfl|hx
     ·exact⟨h2,h3,h4⟩
     ·exact g2 x hx
   ·rename_i hf
    simp only[Prod.mk.injEq]at h
    exact absurd h.2.2 hf
  ·rename_i he
   simp only[Prod.mk.injEq]at h
   exact absurd h.2.2 he
theorem dB(l:List aq)(k:Int):aS l k=0↔bJ k=true∧l.length≤4096∧∀v∈l,v.kind=k∧cA v=true:=by
 constructor
 ·intro h
  refine⟨?_,dO h,fun v hv=>⟨?_,eu h v hv⟩⟩
  ·unfold aS at h
   cases hk:bJ k with
   |true=>rfl
   |false=>rw[hk]at h;simp at h
  ·unfold aS at h
   split at h
   ·simp at h
   split at h
   ·simp at h
   split at h
   ·simp at h
   ·rename_i h3
    have h3':l.any (fun v=> !decide (v.kind=k))=false:=by simpa using h3
    simpa using List.any_eq_false.1 h3' v hv
 ·rintro⟨h1,h2,h3⟩
  unfold aS
  rw[h1,if_neg (by simp),if_neg (by omega),if_neg,if_neg]
  ·rw[Bool.not_eq_true,List.any_eq_false]
   intro v hv
   simp[(h3 v hv).2]
  ·rw[Bool.not_eq_true,List.any_eq_false]
   intro v hv
   simp[(h3 v hv).1]
theorem kM.lt_trans{α:Type}{c:α→α→Int}(h:kM c){x y z:α}(h1:c x y<0)(h2:c y z<0):c x z<0:=by
 have h3:=h.le_trans (x:=x) (y:=y) (z:=z) (by omega) (by omega)
 rcases Int.lt_or_eq_of_le h3 with h4|h4
 ·exact h4
 ·have h5:=(h.C5 (z:=y) h4).1 h1
  have h6:=(h.fC y z).1 h2
  omega
theorem iE.AQ{W:List aq}(h:iE W):lr W:=by
 unfold lr
 rw[List.pairwise_iff_getElem]
 have key:∀(d i:Nat) (x y:aq),W[i]?=some x→W[i+d+1]?=some y→aM x y<0:=by
  intro d
  induction d with
  |zero=>intro i x y hx hy;exact h i x y hx hy
  |succ d ih=>
   intro i x y hx hy
   have hlt:=(List.getElem?_eq_some_iff.1 hy).1
   have hz:=List.getElem?_eq_getElem (show i+d+1<W.length by omega)
   exact aG.lt_trans (ih i x _ hx hz) (h (i+d+1) _ y hz (by rw[←hy,show i+d+1+1=i+(d+1)+1 by omega]))
 intro i j h1 h2 hij
 have:=key (j-i-1) i _ _ (List.getElem?_eq_getElem h1) (by rw[show i+(j-i-1)+1=j by omega];exact List.getElem?_eq_getElem h2)
 simpa[iR]using this
theorem lr.Mv{W:List aq}(h:lr W):iE W:=fun i x y hx hy=>(h.get hx hy).2 (by omega)
theorem lr.zero{W:List aq}(h:lr W){i j:Nat}{x y:aq}(hx:W[i]?=some x)(hy:W[j]?=some y)(hc:aM x y=0):i=j:=by
 have h1:=h.get hx hy
 have h2:=h.get hy hx
 have h3:=(aG.zero x y).1 hc
 omega
theorem vd:∀{A B:List aq},lr A→lr B→(∀x,x∈A↔x∈B)→A=B
 |[],[],_,_,_=>rfl
 |[],b::B,_,_,h=>by have:=(h b).2 (by simp);simp at this
 |a::A,[],_,_,h=>by have:=(h a).1 (by simp);simp at this
 |a::A,b::B,hA,hB,h=>by
  obtain⟨a1,a2⟩:=List.pairwise_cons.1 hA
  obtain⟨b1,b2⟩:=List.pairwise_cons.1 hB
  have F7:∀x,iR aM x x=true→False:=fun x hx=>by
   have:=aG.self x
   simp[iR,this]at hx
  have hab:a=b:=by
   rcases List.mem_cons.1 ((h a).1 (by simp))with e|ha
   ·exact e
   rcases List.mem_cons.1 ((h b).2 (by simp))with e|hb
   ·exact e.symm
   have g1:=b1 a ha
   have g2:=a1 b hb
   simp only[iR,decide_eq_true_eq]at g1 g2
   have:=(aG.fC a b).1 g2
   omega
  subst hab
  rw[vd a2 b2 fun x=>?_]
  constructor
  ·intro hx
   rcases List.mem_cons.1 ((h x).1 (by simp[hx]))with rfl|hx'
   ·exact absurd (a1 _ hx) (fun e=>F7 _ e)
   ·exact hx'
  ·intro hx
   rcases List.mem_cons.1 ((h x).2 (by simp[hx]))with rfl|hx'
   ·exact absurd (b1 _ hx) (fun e=>F7 _ e)
   ·exact hx'
theorem vx:∀{A B:List Nat},A.Nodup→(∀x∈A,x∈B)→A.length≤B.length
 |[],B,_,_=>by simp
 |a::A,B,hA,h=>by
  obtain⟨h1,h2⟩:=List.nodup_cons.1 hA
  have ha:=h a (by simp)
  have:=vx (B:=B.erase a) h2 fun x hx=>by
   have hne:x≠a:=fun e=>h1 (e▸hx)
   exact(List.mem_erase_of_ne hne).2 (h x (by simp[hx]))
  rw[List.length_erase_of_mem ha]at this
  have hp:0<B.length:=List.length_pos_of_mem ha
  simp only[List.length_cons]
  omega
theorem u3{C:List Nat}{n:Nat}:fV C n=true↔(∀c∈C,c<n)∧∀i,i<n→i∈C:=by
 constructor
 ·intro h
  have hlt:=rz h
  refine⟨hlt,fun i hi=>?_⟩
  unfold fV at h
  rw[Bool.and_eq_true,decide_eq_true_eq]at h
  refine Classical.byContradiction fun hn=>?_
  have hT:i∉eE C:=fun e=>hn ((fM C i).1 e)
  have:=ma (m:=n) (seen:=i::eE C) (List.nodup_cons.2 ⟨hT,qh C⟩) fun j hj=>by
   rcases List.mem_cons.1 hj with rfl|hj
   ·exact hi
   ·exact hlt j ((fM C j).1 hj)
  simp only[List.length_cons]at this
  omega
 ·rintro⟨h1,h2⟩
  have g1:=ma (m:=n) (qh C) fun j hj=>h1 j ((fM C j).1 hj)
  have g2:=vx (A:=List.range n) (B:=eE C) List.nodup_range fun x hx=>(fM C x).2 (h2 x (List.mem_range.1 hx))
  rw[List.length_range]at g2
  unfold fV
  rw[Bool.and_eq_true,decide_eq_true_eq,List.all_eq_true]
  exact⟨fun c hc=>by simpa using h1 c ((fM C c).1 hc),by omega⟩
theorem zB{l:List aq}{i:Nat}{w:aq}(h:(a7 aM l)[i]?=some w):eL l w=i:=by
 obtain⟨j,y,h1,h2,h3⟩:=jJ (eU aG (List.mem_of_getElem? h))
 unfold eL
 rw[h1,Int.toNat_natCast]
 exact(lf l).zero h2 h h3
theorem rZ{l:List aq}{k:Int}{a:aq}(hk:bJ k=true)(hg:∀v∈l,iC k v)(ha:a∈l):(a7 aM l)[eL l a]?=some a:=by
 obtain⟨j,y,h1,h2,h3⟩:=jJ ha
 have hy:=eU aG (List.mem_of_getElem? h2)
 obtain⟨m1,k1,i1⟩:=hg y hy
 obtain⟨m2,k2,i2⟩:=hg a ha
 have e:=Ii m1 m2 (by rw[k1,k2]) (by rw[k1];exact hk) i1 i2 h3
 unfold eL
 rw[h1,Int.toNat_natCast,h2,e]
theorem uj{l:List aq}{k:Int}(h:aS l k=0)(hok:∀v∈l,eJ v.i):cJ (fY l) l.length k=(a7 aM l,l.map (eL l),0)∧fT (fY l) l.length k=(l,0):=by
 obtain⟨hk,hl,hv⟩:=(dB l k).1 h
 have hg:∀v∈l,iC k v:=fun v hm=>⟨(hv v hm).2,(hv v hm).1,hok v hm⟩
 have hgW:∀v∈a7 aM l,iC k v:=fun v hm=>hg v (eU aG hm)
 have hwl:=kv l
 have hfit:=pH (l:=l)
 have hrise:=(lf l).Mv
 have hu:fV (l.map (eL l)) (a7 aM l).length=true:=by
  rw[u3]
  constructor
  ·intro c hc
   obtain⟨a,ha,rfl⟩:=List.mem_map.1 hc
   exact zL ha
  ·intro i hi
   have h1:=List.getElem?_eq_getElem hi
   exact List.mem_map.2 ⟨_,eU aG (List.mem_of_getElem? h1),zB h1⟩
 have hpick:fe (a7 aM l) (l.map (eL l))=l:=by
  unfold fe
  rw[List.map_map]
  conv=>rhs;rw[←List.map_id l]
  apply List.map_congr_left
  intro a ha
  simp only[Function.comp_apply,id_eq,List.getD,rZ hk hg ha,Option.getD_some]
 have hcl:(l.map (eL l)).length=l.length:=by simp
 have hun:=mo (l.map (eL l)) (dJ (a7 aM l).length) hfit
 rw[hcl]at hun
 have hrd:=py hk (a7 aM l) (cF (l.map (eL l)) (dJ (a7 aM l).length)) hgW
 have hB:fY l=bp (a7 aM l).length++(aY (a7 aM l)++cF (l.map (eL l)) (dJ (a7 aM l).length)):=by unfold fY;rw[List.append_assoc]
 have hT:cJ (fY l) l.length k=(a7 aM l,l.map (eL l),0):=by
  rw[hB]
  unfold cJ
  rw[hk,if_neg (by simp),if_neg (by omega),if_neg (by omega),gN _ (by omega)]
  simp only
  rw[if_neg (by simp),if_neg (by omega),List.drop_left,Int.toNat_natCast]
  unfold fQ
  rw[hrd]
  simp only[if_true]
  rw[if_pos hrise]
  unfold qz
  simp only
  rw[if_neg (by simp),hun.2,if_neg (by simp),hun.1,if_pos hu]
 refine⟨hT,?_⟩
 unfold fT
 rw[hT]
 simp only[if_true]
 rw[hpick]
theorem uL{b:List Nat}{n k:Int}{l:List aq}(hb:cb b)(h:fT b n k=(l,0)):aS l k=0∧fY l=b∧(l.length:Int)=n∧∀v∈l,eJ v.i:=by
 unfold fT at h
 rcases ht:cJ b n k with⟨W,C,e⟩
 rw[ht]at h
 simp only at h
 by_cases he:e=0
 ·subst he
  simp only[if_true,Prod.mk.injEq,and_true]at h
  obtain⟨N,many,j,i,rfl,hN,hk,hgp,hmN,hrd,hrise,hWl,huE,hC,hu⟩:=nw ht
  obtain⟨hj,hbe⟩:=gW hb hgp
  have hdb:cb (b.drop j):=fun c hc=>hb c (List.mem_of_mem_drop hc)
  obtain⟨hdr,hgW⟩:=nR hk many _ W _ hdb hrd
  generalize hr:(b.drop j).drop i=r at*
  have hrb:cb r:=fun c hc=>hdb c (by rw[hdr];exact List.mem_append_right _ hc)
  have hpu:=qo r N (dJ W.length) hrb huE
  rw[←hC]at hpu
  have hCl:C.length=N:=by rw[hC,cr]
  obtain⟨u1,u2⟩:=u3.1 hu
  have hat:∀c∈C,W[c]?=some (W.getD c zV):=fun c hc=>by
   have:=u1 c hc
   simp[List.getD,this]
  have hmem:∀x,x∈l↔x∈W:=by
   intro x
   rw[←h]
   unfold fe
   constructor
   ·intro hx
    obtain⟨c,hc,rfl⟩:=List.mem_map.1 hx
    exact List.mem_of_getElem? (hat c hc)
   ·intro hx
    obtain⟨i,hi,rfl⟩:=List.mem_iff_getElem.1 hx
    exact List.mem_map.2 ⟨i,u2 i hi,by simp[List.getD,hi]⟩
  have hgl:∀v∈l,iC k v:=fun v hv=>hgW v ((hmem v).1 hv)
  have hll:l.length=N:=by rw[←h,fe,List.length_map,hCl]
  have hwords:a7 aM l=W:=by
   refine vd (lf l) hrise.AQ fun x=>?_
   constructor
   ·intro hx
    exact(hmem x).1 (eU aG hx)
   ·intro hx
    have hxl:=(hmem x).2 hx
    exact List.mem_of_getElem? (rZ hk hgl hxl)
  have hcodes:l.map (eL l)=C:=by
   conv=>lhs;arg 2;rw[←h]
   unfold fe
   rw[List.map_map]
   conv=>rhs;rw[←List.map_id C]
   apply List.map_congr_left
   intro c hc
   exact zB (by rw[hwords];exact hat c hc)
  refine⟨(dB l k).2 ⟨hk,by omega,fun v hv=>⟨(hgl v hv).2.1,(hgl v hv).1⟩⟩,?_,by omega,fun v hv=>(hgl v hv).2.2⟩
  unfold fY
  rw[hwords,hcodes,hpu,List.append_assoc,←hdr,hWl]
  exact hbe.symm
 ·rw[if_neg he]at h
  simp only[Prod.mk.injEq]at h
  exact absurd h.2 he
theorem Gy(a z:Int)(h:eJ z):IntKind.i64.wrap (IntKind.i64.wrap (a+z)-a)=z:=by
 obtain⟨q,hq⟩:=kD (a+z)
 obtain⟨p,hp⟩:=kD (IntKind.i64.wrap (a+z)-a)
 have hr:=dY (IntKind.i64.wrap (a+z)-a)
 obtain⟨h1,h2⟩:=h
 omega
theorem wrap_add(a b:Int)(h:eJ b):IntKind.i64.wrap (a+IntKind.i64.wrap (b-a))=b:=by
 obtain⟨q,hq⟩:=kD (b-a)
 obtain⟨p,hp⟩:=kD (a+IntKind.i64.wrap (b-a))
 have hr:=dY (a+IntKind.i64.wrap (b-a))
 obtain⟨h1,h2⟩:=h
 omega
theorem yp(n:Int):eJ (IntKind.i64.wrap n):=dY n
theorem Hj(x:Int)(hx:eJ x)(S:List Nat):∀k,eJ (mV x S k)
 |0=>hx
 |k+1=>yp _
theorem Ct(l:List aq)(v:aq)(h0:l[0]?=some v)(hok:∀v∈l,eJ v.i):∀k (y:aq),l[k]?=some y→mV v.i (bT l) k=y.i:=by
 intro k
 induction k with
 |zero=>intro y hy;rw[h0]at hy;cases hy;rfl
 |succ k ih=>
  intro y hy
  have hlt:=(List.getElem?_eq_some_iff.1 hy).1
  have hx:=List.getElem?_eq_getElem (show k<l.length by omega)
  have hy2:l[k+1]=y:=(List.getElem?_eq_some_iff.1 hy).2
  have hs:=kR l k hlt
  have hgd:(bT l).getD k 0=sN l[k] l[k+1]:=by simp[List.getD,hs]
  simp only[mV]
  rw[ih _ hx,hgd,hy2]
  unfold sN
  rw[wN _ (yp _),wrap_add _ _ (hok y (List.mem_of_getElem? hy))]
theorem CA(l:List aq)(v:aq)(h0:l[0]?=some v)(hn:∀v∈l,v=cG v.i)(hok:∀v∈l,eJ v.i):gF v.i (bT l) l.length=l:=by
 apply List.ext_getElem
 ·rw[gG]
 ·intro k h1 h2
  have hy:=List.getElem?_eq_getElem h2
  simp only[gF,List.getElem_map,List.getElem_range]
  rw[Ct l v h0 hok k _ hy]
  exact(hn _ (List.getElem_mem h2)).symm
theorem B8(x:Int)(hx:eJ x)(S:List Nat)(hS:∀n∈S,n<18446744073709551616):bT (gF x S (S.length+1))=S:=by
 apply List.ext_getElem
 ·rw[fo,gG];rfl
 ·intro k h1 h2
  have h3:=kR (gF x S (S.length+1)) k (by rw[gG];omega)
  rw[List.getElem?_eq_getElem h1]at h3
  rw[Option.some.inj h3]
  simp only[gF,List.getElem_map,List.getElem_range,sN,cG]
  have hgd:S.getD k 0=S[k]:=by simp[List.getD,h2]
  have hlt:=hS _ (List.getElem_mem h2)
  simp only[mV,hgd]
  rw[Gy _ _ (o9 _ hlt),v7 _ hlt]
theorem lR(v:aq)(r:List aq):iN (v::r)=bp (fj v.i)++(bp (cw (bT (v::r)))++cF (bT (v::r)) (cw (bT (v::r)))):=by
 rw[←List.append_assoc];rfl
theorem HQ(l:List aq)(hl:l≠[])(hm:l.length≤4096)(hn:∀v∈l,v=cG v.i)(hok:∀v∈l,eJ v.i):mW (iN l) l.length=(some l,0):=by
 cases l with
 |nil=>exact absurd rfl hl
 |cons v r=>
  have hlen:(v::r).length=r.length+1:=rfl
  have hv:=hok v (by simp)
  have hz:=gM hv.1 hv.2
  have hss:=j9 (v::r)
  have hw:=jg hss
  have hfit:=jR (l:=bT (v::r))
  have hsl:=fo (v::r)
  have hsum:=CA (v::r) v rfl hn hok
  unfold mW
  rw[if_neg (by omega),if_neg (by omega)]
  unfold JH
  rw[lR,gN _ hz,List.drop_left]
  simp only
  rw[gN _ (by omega),←List.append_assoc,←List.length_append,List.drop_left]
  simp only
  have hu:=mo (bT (v::r)) (cw (bT (v::r))) hfit
  rw[hsl]at hu
  rw[Int.toNat_natCast,hu.1,hu.2,wN _ hv,hsum]
  simp[show ¬64<cw (bT (v::r)) by omega]
theorem yF(b:List Nat)(n:Int)(k:List aq)(hb:∀c∈b,c<256)(h:mW b n=(some k,0)):iN k=b∧(k.length:Int)=n∧k≠[]∧n≤4096∧(∀v∈k,v=cG v.i)∧∀v∈k,eJ v.i:=by
 unfold mW at h
 by_cases h1:n<0∨4096<n
 ·rw[if_pos h1]at h;simp at h
 rw[if_neg h1]at h
 by_cases h2:n=0
 ·rw[if_pos h2]at h;simp at h
 rw[if_neg h2]at h
 obtain⟨m,hm⟩:∃m:Nat,n=((m+1:Nat):Int):=⟨n.toNat-1,by omega⟩
 have hmt:n.toNat=m+1:=by omega
 unfold JH at h
 rw[hmt,show m+1-1=m from rfl]at h
 have hlt1:=fh b
 rcases hg:aQ b with⟨first,k1,e1⟩
 rw[hg]at h hlt1
 simp only at h hlt1
 by_cases he:e1=0
 ·subst he
  simp only[ne_eq,not_true_eq_false,if_false]at h
  obtain⟨hk1,hb1⟩:=gW hb hg
  have hb2:∀c∈b.drop k1,c<256:=fun c hc=>hb c (List.mem_of_mem_drop hc)
  rcases hg2:aQ (b.drop k1)with⟨w,j,e2⟩
  rw[hg2]at h
  simp only at h
  by_cases he2:e2=0
  ·subst he2
   simp only[not_true_eq_false,if_false]at h
   obtain⟨hj,hb3⟩:=gW hb2 hg2
   rw[List.drop_drop]at hb3
   by_cases hw:64<w
   ·rw[if_pos hw]at h;simp at h
   rw[if_neg hw]at h
   by_cases hu:bq (b.drop (k1+j)) m w=0
   ·rw[if_neg (by simp[hu])]at h
    have hpk:=qo (b.drop (k1+j)) m w (fun c hc=>hb c (List.mem_of_mem_drop hc)) hu
    have hSl:=gp (b.drop (k1+j)) m w (by omega)
    have hSn:=cr (b.drop (k1+j)) m w
    generalize bG (b.drop (k1+j)) m w=S at*
    by_cases hwd:cw S=w
    ·rw[if_neg (by simp[hwd])]at h
     have hk:k=gF (dA first) S (m+1):=by
      have:=(Prod.mk.inj h).1
      exact(Option.some.inj this).symm
     have hsteps:=B8 (dA first) (o9 _ hlt1) S hSl
     rw[hSn]at hsteps
     have hnum:∀v∈k,v=cG v.i∧eJ v.i:=by
      intro v hv
      rw[hk]at hv
      obtain⟨i,_,rfl⟩:=List.mem_map.1 hv
      exact⟨rfl,Hj _ (o9 _ hlt1) S i⟩
     refine⟨?_,by rw[hk,gG,hm],by rw[hk];intro e;have:=congrArg List.length e;rw[gG]at this;simp at this,by omega,fun v hv=>(hnum v hv).1,fun v hv=>(hnum v hv).2⟩
     obtain⟨r,hr⟩:∃r,gF (dA first) S (m+1)=cG (dA first)::r:=⟨_,by simp only[gF,List.range_succ_eq_map,List.map_cons];rfl⟩
     rw[hk,hr,lR,←hr,hsteps,hwd,hpk]
     simp only[cG]
     rw[v7 _ hlt1,←hb3,←hb1]
    ·rw[if_pos hwd]at h;simp at h
   ·rw[if_pos hu]at h
    simp at h
  ·rw[if_pos he2]at h;simp at h
 ·rw[if_pos he]at h;simp at h
theorem mQ{b:List Nat}(h:cb b)(n:Nat):cb (b.drop n):=fun c hc=>h c (List.mem_of_mem_drop hc)
theorem vY{b:List Nat}{n k:Int}{l:List aq}(hb:cb b)(h:de b n k=(l,0)):bJ k=true∧(∀v∈l,iC k v)∧l.length≤4096∧b=aY l∧(l.length:Int)=n:=by
 unfold de at h
 split at h
 ·simp at h
 rename_i hk
 have hk:bJ k=true:=by simpa using hk
 split at h
 ·simp at h
 split at h
 ·simp at h
 split at h
 ·rename_i he
  simp only[Prod.mk.injEq]at h
  exact absurd h.2 he
 split at h
 ·simp at h
 rename_i h1 h2 h3 h4
 simp only[Prod.mk.injEq,and_true]at h
 have h3:(aX k n.toNat b).2.2=0:=by simpa using h3
 have h4:(aX k n.toNat b).2.1=[]:=by simpa using h4
 have e:aX k n.toNat b=(l,[],0):=by rw[←h,←h3,←h4]
 obtain⟨g1,g2⟩:=nR hk _ b l [] hb e
 have hlen:=jf k n.toNat b h3
 rw[e]at hlen
 simp only at hlen
 exact⟨hk,g2,by omega,by rw[g1,List.append_nil],by omega⟩
theorem Cw{b r:List Nat}{n:Nat}{k:Int}{q:Nat×aq}(hb:cb b)(hk:bJ k=true)(h:dS b n k=(q,r,0)):iC k q.2∧b=kd q++r∧1≤q.1∧q.1≤n∧cb r:=by
 obtain⟨g1,g2,j,g3⟩:=oD h
 unfold dS at h
 split at h
 ·rename_i he
  simp only[Prod.mk.injEq]at h
  exact absurd h.2.2 he
 split at h
 ·simp at h
 split at h
 ·rename_i he
  simp only[Prod.mk.injEq]at h
  exact absurd h.2.2 he
 ·rename_i h1 h2 h3
  simp only[Prod.mk.injEq,and_true]at h
  obtain⟨rfl,rfl⟩:=h
  have h3:(ej (b.drop (aQ b).2.1) k).2.2=0:=by simpa using h3
  obtain⟨e1,e2,e3,e4⟩:=zP (v:=(ej (b.drop (aQ b).2.1) k).1) (r:=(ej (b.drop (aQ b).2.1) k).2.1) (mQ hb _) hk (by rw[←h3])
  have h1:(aQ b).2.2=0:=by simpa using h1
  obtain⟨f1,f2⟩:=gW (n:=(aQ b).1) (k:=(aQ b).2.1) hb (by rw[←h1])
  refine⟨⟨e2,e3,e4⟩,?_,g1,g2,by rw[g3];exact mQ hb _⟩
  unfold kd
  simp only
  rw[List.append_assoc,←e1]
  exact f2
theorem zf(k:Int)(hk:bJ k=true):∀(f:Nat) (R:List (Nat×aq)) (n:Nat) (b:List Nat),cb b→(∀r∈R,iC k r.2)→∀r∈(rq k f R n b).1,iC k r.2
 |0,R,n,b,hb,h=>h
 |f+1,R,n,b,hb,h=>by
  unfold rq
  split
  ·exact h
  split
  ·simp
  rename_i he
  split
  ·simp
  obtain⟨q,r,e,hq⟩:∃q r e,dS b n k=(q,r,e):=⟨_,_,_,rfl⟩
  rw[hq]at he⊢
  obtain rfl:e=0:=by simpa using he
  obtain⟨g1,g2,g3,g4,g5⟩:=Cw hb hk hq
  refine zf k hk f _ _ _ g5 fun x hx=>?_
  rcases List.mem_append.1 hx with h'|h'
  ·exact h x h'
  ·rw[List.mem_singleton.1 h'];exact g1
theorem Bw{R:List (Nat×aq)}{v:aq}(h:v∈cf R):∃r∈R,r.2=v:=by
 have:∀(R:List (Nat×aq)) (l:List aq),v∈R.foldl cx l→v∈l∨∃r∈R,r.2=v:=by
  intro R
  induction R with
  |nil=>exact fun l h=> .inl h
  |cons r R ih=>
   intro l h
   rcases ih _ h with h|⟨r',h1,h2⟩
   ·rcases List.mem_append.1 h with h|h
    ·exact .inl h
    ·exact .inr ⟨r,by simp,(List.eq_of_mem_replicate h).symm⟩
   ·exact .inr ⟨r',by simp[h1],h2⟩
 rcases this R [] h with h|h
 ·cases h
 ·exact h
theorem Bx{b:List Nat}{n k:Int}{l:List aq}(hb:cb b)(h:fU b n k=(l,0)):bJ k=true∧(∀v∈l,iC k v):=by
 unfold fU at h
 split at h
 ·rename_i he
  simp only[Prod.mk.injEq]at h
  exact absurd h.2 he
 rename_i he
 simp only[Prod.mk.injEq,and_true]at h
 subst h
 unfold cU at he⊢
 split at he
 ·simp at he
 rename_i hk
 have hk:bJ k=true:=by simpa using hk
 rw[if_neg (by simp[hk])]
 refine⟨hk,?_⟩
 split
 ·intro v hv;simp[cf]at hv
 split
 ·intro v hv;simp[cf]at hv
 split
 ·intro v hv;simp[cf]at hv
 split
 ·intro v hv;simp[cf]at hv
 intro v hv
 obtain⟨r,h1,rfl⟩:=Bw hv
 exact zf k hk _ [] _ b hb (by simp) r h1
theorem El(b:List Nat)(n k:Int):(fU b n k).1.length≤4096:=by
 unfold fU
 split
 ·simp
 ·exact nI _
theorem zb(b:List Nat)(n k:Int):(de b n k).1.length≤4096:=by
 unfold de
 split
 ·simp
 split
 ·simp
 split
 ·simp
 split
 ·simp
 split
 ·simp
 rename_i h1 h2 h3 h4 h5
 have:=jf k n.toNat b (by simpa using h4)
 simp only
 omega
theorem Cm(b:List Nat)(n k:Int)(hb:cb b):(fT b n k).1.length≤4096:=by
 obtain⟨l,e,h⟩:∃l e,fT b n k=(l,e):=⟨_,_,rfl⟩
 by_cases he:e=0
 ·subst he
  have:=uL hb h
  rw[h]
  exact((dB l k).1 this.1).2.1
 ·unfold fT at h⊢
  split at h
  ·rename_i h0
   simp only[Prod.mk.injEq]at h
   exact absurd h.2.symm he
  ·rename_i h0
   rw[if_neg h0];simp
theorem Jl(b:List Nat)(n:Int)(hb:cb b):((mW b n).1.getD []).length≤4096:=by
 obtain⟨o,e,h⟩:∃o e,mW b n=(o,e):=⟨_,_,rfl⟩
 rw[h]
 cases o with
 |none=>simp
 |some l=>
  have he:e=0:=by
   unfold mW at h
   split at h
   ·simp at h
   split at h
   ·simp at h
   unfold JH at h
   repeat' split at h
   all_goals simp at h
   all_goals first|exact h.2.symm|exact absurd h id
  subst he
  have:=yF b n l hb h
  simp only[Option.getD_some]
  omega
theorem ve{b:List Nat}{n k w:Int}{l:List aq}(hb:cb b)(h:gj b n k w=(l,0)):bJ k=true∧(∀v∈l,iC k v)∧1≤w∧w≤4:=by
 unfold gj at h
 split at h
 ·obtain⟨h1,h2,_⟩:=vY hb h
  exact⟨h1,h2,by omega,by omega⟩
 split at h
 ·obtain⟨h1,h2⟩:=Bx hb h
  exact⟨h1,h2,by omega,by omega⟩
 split at h
 ·obtain⟨h1,_,_,h4⟩:=uL hb h
  obtain⟨g1,_,g3⟩:=(dB l k).1 h1
  exact⟨g1,fun v hv=>⟨(g3 v hv).2,(g3 v hv).1,h4 v hv⟩,by omega,by omega⟩
 split at h
 ·rename_i hw
  obtain⟨hw,rfl⟩:=hw
  simp only[Prod.mk.injEq]at h
  obtain⟨h1,h2⟩:=h
  refine⟨rfl,?_,by omega,by omega⟩
  cases ho:(mW b n).1 with
  |none=>rw[ho]at h1;subst h1;simp
  |some l'=>
   rw[ho]at h1
   subst h1
   obtain⟨_,_,_,_,g1,g2⟩:=yF b n l' hb (by rw[←ho,←h2])
   intro v hv
   refine⟨?_,?_,g2 v hv⟩
   ·rw[g1 v hv];exact(mf rfl).2 rfl
   ·rw[g1 v hv];rfl
 ·simp at h
theorem sz(b:List Nat)(n k w:Int)(hb:cb b):(gj b n k w).1.length≤4096:=by
 unfold gj
 split
 ·exact zb b n k
 split
 ·exact El b n k
 split
 ·exact Cm b n k hb
 split
 ·exact Jl b n hb
 ·simp
def lb(l:List Nat):List (List D):=l.map fun(n:Nat)=>[D.v (.int .i64 (n:Int))]
def eD(l:List Nat):List Nat:=l.flatMap bp
theorem lg(l:List Nat)(n:Nat):eD (l++[n])=eD l++bp n:=by simp[eD]
theorem qO(l:List Nat)(nn:Bool)(hl:l.length≤1000)(hn:∀n∈l,n<9223372036854775808)(H:aa):ag Tryz.prog 33 [.d (.list nn (lb l))] H (.ok (.sl H.length l.length 0 (eD l).length)) (H++[.arr 5 1 l.length (aD (eD l))]):=by
 have hWb:∀k,k≤l.length→(eD (l.take k)).length≤k* 11:=by
  intro k
  induction k with
  |zero=>intro _;simp[eD]
  |succ k ih=>
   intro hk
   have hk':k<l.length:=by omega
   rw[List.take_succ_eq_append_getElem hk',lg,List.length_append]
   have h1:=ih (by omega)
   have h2:=bD 10 l[k] (by have:=hn _ (List.getElem_mem hk');omega)
   omega
 refine ag.aj (hint:=(fun _=>false)) Tryz.func33 (by kernel_rfl) rfl [2] (by kernel_rfl) (by decide) (by simp[Tryz.ntmps33]) ?_
 rw[Tryz.ntmps33]
 simp -implicitDefEqProofs only[↓reduceIte,go_sem,Nat.reduceLT,reduceCtorEq]
 refine bW (fun j s H'=>H'=H++[.arr 5 1 j (aD (eD (l.take j)))]∧s 3= .sl H.length j 0 (eD (l.take j)).length∧s 6= .d (.list nn (lb l))∧s 7=iA l.length∧s 8=iA j) l.length (by omega) (ay.db _ _ 3 5 1 (by decide) (by simp -implicitDefEqProofs only[↓reduceIte,go_sem,Nat.reduceLT,Nat.reduceEqDiff]) _) ?_ ?_ ?_
 ·refine⟨rfl,?_⟩
  simp -implicitDefEqProofs only[↓reduceIte,go_sem,Nat.reduceLT,Nat.reduceEqDiff,lb,List.length_map]
  rfl
 ·rintro j s H' hj hw ⟨rfl,t3,t6,t7,t8⟩
  have hx:(lb l)[j]?=some [.v (.int .i64 ((l[j]:Nat):Int))]:=by unfold lb;rw[List.getElem?_map,List.getElem?_eq_getElem hj];rfl
  have hm:=hn _ (List.getElem_mem hj)
  have hb:=hWb j (by omega)
  have e1:eD (l.take (j+1))=eD (l.take j)++bp l[j]:=by rw[List.take_succ_eq_append_getElem hj,lg]
  rw[e1]
  generalize eD (l.take j)=B at*
  generalize l[j]=m at*
  have wm:=aK m (by omega)
  have hpl:=bD 10 m (by omega)
  simp -implicitDefEqProofs only[↓reduceIte,go_sem,Nat.reduceLT,Nat.reduceEqDiff,t3,t6,t7,t8,hj,hx,wm]
  refine ae.ok (oF m (by omega) _) ?_
  simp -implicitDefEqProofs only[↓reduceIte,go_sem,Nat.reduceLT,Nat.reduceEqDiff,aL,ai,dh]
  refine⟨by omega,by omega,?_⟩
  simp -implicitDefEqProofs only[↓reduceIte,go_sem,Nat.reduceLT,t8]
  refine c9.same ⟨rfl,?_⟩
  simp -implicitDefEqProofs only[↓reduceIte,go_sem,Nat.reduceLT,Nat.reduceEqDiff,t6,t7,hw]
 ·rintro s H' ⟨rfl,t3,t6,t7,t8⟩
  rw[show l.take l.length=l from List.take_length]at*
  simp -implicitDefEqProofs only[↓reduceIte,go_sem,Nat.reduceLT,Nat.reduceEqDiff,t3,t7,t8]
  exact⟨_,ay.refl _ _,by simp -implicitDefEqProofs only[↓reduceIte,go_sem,Nat.reduceLT]⟩
def iB(w:Nat):Nat:=if w%2=1 then w/2^^^3988292384 else w/2
def dM(w:Nat):Nat→Nat
 |0=>w
 |k+1=>iB (dM w k)
theorem Gm{w:Nat}(h:w<4294967296):iB w<4294967296:=by
 unfold iB
 split
 ·exact Nat.xor_lt_two_pow (n:=32) (by omega) (by decide)
 ·omega
theorem mG{w:Nat}(h:w<4294967296):∀k,dM w k<4294967296
 |0=>h
 |k+1=>Gm (mG h k)
def ky(i:Nat):Nat:=dM i 8
def oC:List Nat:=(List.range 256).map ky
theorem jw:oC.length=256:=by simp[oC]
theorem x6{i:Nat}(h:i<256):oC[i]?=some (ky i):=by simp[oC,h]
abbrev wA(n:Nat):AV:= .d (.v (.int .u32 n))
def j0(i:Nat):List AV:=(oC.take i).map wA++List.replicate (256-i) (wA 0)
theorem tt{i:Nat}(h:i≤256):(j0 i).length=256:=by simp[j0,jw];omega
theorem GJ{i:Nat}(h:i<256):(j0 i).set i (wA (ky i))=j0 (i+1):=by
 unfold j0
 have e1:oC.take (i+1)=oC.take i++[ky i]:=by
  rw[List.take_succ_eq_append_getElem (by rw[jw];exact h)]
  congr 2
  have:=x6 h
  rw[List.getElem?_eq_getElem (by rw[jw];exact h)]at this
  exact Option.some.inj this
 have e2:256-i=(256-(i+1))+1:=by omega
 rw[e1,e2,List.replicate_succ,List.map_append,List.append_assoc,List.set_append_right _ _ (by simp[jw];omega)]
 simp[jw,Nat.min_eq_left (show i≤256 by omega)]
def lJ(b:List Nat):Nat:=b.foldl (fun w c=>w/256^^^ky ((w%256)^^^c)) 4294967295
def dL(w:Nat):List Nat:=[w%256,w/256%256,w/65536%256,w/16777216%256]
theorem wF{i:Nat}(h:i<256):ky i<4294967296:=mG (by omega) 8
theorem eG(n:Nat)(h:n<4294967296):IntKind.u32.wrap (n:Int)=(n:Int):=by
 simp only[IntKind.wrap,IntKind.signed,IntKind.bits]
 simp
 omega
theorem Gj(w k:Nat)(h:k≤32):j6 .u32 (w:Int) (k:Int)=((w/2^k:Nat):Int):=by
 have:min k 32=k:=by omega
 simp only[j6,IntKind.bits,Int.toNat_natCast,this]
 rw[Int.fdiv_eq_ediv_of_nonneg _ (by exact_mod_cast Nat.zero_le _)]
 norm_cast
theorem Lp{w:Nat}(h:w<4294967296):IntKind.u32.wrap (xC .u32 (w:Int) 1)=((w%2:Nat):Int):=by
 have:=om .u32 w 1 (by simp only[IntKind.bits];omega) (by decide)
 rw[show((1:Nat):Int)=1 from rfl]at this
 rw[this,Nat.and_one_is_mod]
 exact eG _ (by omega)
theorem HK{a b:Nat}(ha:a<4294967296)(hb:b<4294967296):IntKind.u32.wrap (sF .u32 (a:Int) (b:Int))=((a^^^b:Nat):Int):=by
 rw[sZ .u32 a b (by simp only[IntKind.bits];omega) (by simp only[IntKind.bits];omega)]
 exact eG _ (Nat.xor_lt_two_pow (n:=32) (by omega) (by omega))
theorem sR(H:aa):ag Tryz.prog 43 [] H (.ok (.agg (oC.map wA))) H:=by
 refine ag.bj (hint:=fun _=>false) Tryz.func43 (by kernel_rfl) rfl [.cell 0 86] (by kernel_rfl) (by simp[Tryz.ntmps43]) ?_
 rw[Tryz.ntmps43]
 have h0:List.map (fun c=>AV.d (D.v c)) (Array.replicate 256 (Value.int IntKind.u32 0)).toList=j0 0:=by simp[j0]
 have l0:=tt (i:=0) (by omega)
 simp -implicitDefEqProofs only[go_sem]
 rw[h0]
 refine bW (fun i s H'=>H'=H++[.box 86 256 0 1 (j0 0),.box 86 256 0 1 (j0 i)]∧s 0= .ptr H.length 0 0 0∧s 1= .ptr (H.length+1) 0 0 0∧s 5=iA i) 256 (by omega) (ay.refl _ _) ?_ ?_ ?_
 ·refine⟨rfl,?_⟩
  simp -implicitDefEqProofs only[↓reduceIte,go_sem,Nat.reduceLT,Nat.reduceEqDiff,reduceCtorEq]
 ·rintro i s H' hi hw ⟨rfl,t0,t1,t5⟩
  have wi:=eG i (by omega)
  have hrl:=mG (w:=i) (by omega)
  have hcl:=tt (i:=i) (by omega)
  have hset:=GJ hi
  generalize j0 (i+1)=C2 at*
  generalize j0 i=C at*
  generalize j0 0=C0 at*
  simp -implicitDefEqProofs only[↓reduceIte,go_sem,Nat.reduceLT,Nat.reduceEqDiff,t5,show((i:Int)<256)=True from eq_true (by omega),wi]
  refine bW (fun k s H'=>H'=H++[.box 86 256 0 1 C0,.box 86 256 0 1 C]∧s 0= .ptr H.length 0 0 0∧s 1= .ptr (H.length+1) 0 0 0∧s 2=iA i∧s 3=wA (dM i k)∧s 5=iA i∧s 10=iA k) 8 (by omega) (ay.refl _ _) ?_ ?_ ?_
  ·refine⟨rfl,?_⟩
   simp -implicitDefEqProofs only[↓reduceIte,go_sem,Nat.reduceLT,Nat.reduceEqDiff,reduceCtorEq,t0,t1,t5]
   rfl
  ·rintro k s H1 hk hw2 ⟨rfl,t0,t1,t2,t3,t5,t10⟩
   have hl:=hrl k
   have e1:dM i (k+1)=iB (dM i k):=rfl
   rw[e1]
   generalize dM i k=x at*
   have sh:=Gj x 1 (by decide)
   rw[show((1:Nat):Int)=1 from rfl,show 2^1=2 from rfl]at sh
   have an:=Lp hl
   have xo:=HK (a:=x/2) (b:=3988292384) (by omega) (by decide)
   rw[show((3988292384:Nat):Int)=3988292384 from rfl]at xo
   by_cases hb:x%2=1
   ·have e2:iB x=x/2^^^3988292384:=if_pos hb
    rw[hb]at an
    rw[e2]
    generalize hy:((x/2:Nat):Int)=y at*
    simp -implicitDefEqProofs only[↓reduceIte,go_sem,Nat.reduceLT,Nat.reduceEqDiff,Int.reduceLE,t3,t10,show((k:Int)<8)=True from eq_true (by omega),an,sh,xo]
    refine c9.same ⟨rfl,?_⟩
    simp -implicitDefEqProofs only[↓reduceIte,go_sem,Nat.reduceLT,Nat.reduceEqDiff,reduceCtorEq,t0,t1,t2,t5,hw2]
   ·have hb0:x%2=0:=by omega
    have e2:iB x=x/2:=if_neg hb
    rw[hb0]at an
    rw[e2]
    generalize hy:((x/2:Nat):Int)=y at*
    simp -implicitDefEqProofs only[↓reduceIte,go_sem,Nat.reduceLT,Nat.reduceEqDiff,Int.reduceLE,Int.reduceEq,t3,t10,show((k:Int)<8)=True from eq_true (by omega),an,sh]
    refine c9.same ⟨rfl,?_⟩
    simp -implicitDefEqProofs only[↓reduceIte,go_sem,Nat.reduceLT,Nat.reduceEqDiff,reduceCtorEq,t0,t1,t2,t5,hw2,←hy]
  ·rintro s H1 ⟨rfl,t0,t1,t2,t3,t5,t10⟩
   have e3:dM i 8=ky i:=rfl
   rw[e3]at t3
   have hset':List.take i C++AV.d (D.v (Value.int IntKind.u32 (ky i:Int)))::List.drop (i+1) C=C2:=by
    rw[←hset,List.set_eq_take_append_cons_drop,if_pos (by omega)]
   simp -implicitDefEqProofs only[↓reduceIte,go_sem,au,Nat.reduceLT,Nat.reduceEqDiff,Int.reduceLT,t1,t2,t3,t10,hcl,show((i:Int)<256)=True from eq_true (by omega),show i+1≤256 by omega,hset',t5]
   refine c9.same ⟨rfl,?_⟩
   simp -implicitDefEqProofs only[↓reduceIte,go_sem,Nat.reduceLT,Nat.reduceEqDiff,reduceCtorEq,t0,t1,hw]
 ·rintro s H' ⟨rfl,t0,t1,t5⟩
  have l6:=tt (i:=256) (by omega)
  have e6:j0 256=oC.map wA:=by unfold j0;rw[List.take_of_length_le (by rw[jw];exact Nat.le_refl _)];simp
  have o6:(j0 256).all AV.one=true:=by
   rw[e6,List.all_eq_true]
   intro x hx
   obtain⟨n,_,rfl⟩:=List.mem_map.1 hx
   rfl
  have f6:∀(G:aa) (m:Nat),(j0 256).map (mu G m)=j0 256:=fun G m=>by rw[e6,List.map_map];rfl
  rw[←e6]
  have k6:List.take 256 (j0 256)=j0 256:=List.take_of_length_le (by omega)
  generalize j0 256=C at*
  generalize j0 0=C0 at*
  have d0:C0.drop 256=[]:=List.drop_eq_nil_of_le (by omega)
  simp -implicitDefEqProofs only[↓reduceIte,go_sem,ah,au,Nat.reduceLT,Nat.reduceEqDiff,Int.reduceLT,reduceCtorEq,t0,t1,t5,l6,k6,l0,o6,d0,List.take_zero,List.nil_append,List.append_nil]
  refine aZ.ret ?_
  simp -implicitDefEqProofs only[↓reduceIte,go_sem,ah,Nat.reduceLeDiff,reduceCtorEq,aJ,a8,t0,l6,k6,f6]
theorem LJ{c:Nat}(h:c<4294967296):IntKind.u32.wrap (HE .u32 (c:Int))=((4294967295-c:Nat):Int):=by
 have e:HE .u32 (c:Int)=((4294967295-c:Nat):Int):=by
  unfold HE
  show(((BitVec.ofInt 32 4294967295^^^BitVec.ofInt 32 (c:Int)).toNat:Nat):Int)=_
  have h1:BitVec.ofInt 32 4294967295=BitVec.allOnes 32:=by decide
  rw[h1,BitVec.allOnes_xor,BitVec.toNat_not,BitVec.ofInt_natCast,BitVec.toNat_ofNat,Nat.mod_eq_of_lt h]
 rw[e]
 exact eG _ (by omega)
theorem nT(n:Nat):IntKind.u8.wrap (n:Int)=((n%256:Nat):Int):=by
 simp only[IntKind.wrap,IntKind.signed,IntKind.bits]
 simp
theorem xS(b:List Nat)(nn:Bool)(hb:∀c∈b,c<256)(hl:b.length≤140737488355328)(H:aa):ag Tryz.prog 42 [.agg (oC.map wA),.d (.list nn (aD b))] H (.ok (.d (.v (.int .u32 (4294967295-lJ b:Nat))))) H:=by
 have tl:(oC.map wA).length=256:=by rw[List.length_map,jw]
 have tg:∀i,i<256→(oC.map wA)[i]?=some (wA (ky i)):=fun i hi=>by rw[List.getElem?_map,x6 hi];rfl
 have ta:(oC.map wA).all AV.one=true:=by
  rw[List.all_eq_true]
  intro x hx
  obtain⟨n,_,rfl⟩:=List.mem_map.1 hx
  rfl
 generalize oC.map wA=C at*
 have hlt:∀k,(b.take k).foldl (fun w c=>w/256^^^ky ((w%256)^^^c)) 4294967295<4294967296:=by
  intro k
  induction k with
  |zero=>simp
  |succ k ih=>
   rcases Nat.lt_or_ge k b.length with hk|hk
   ·rw[List.take_succ_eq_append_getElem hk,List.foldl_append]
    simp only[List.foldl_cons,List.foldl_nil]
    have hc:=hb _ (List.getElem_mem hk)
    generalize List.foldl _ _ (b.take k)=w at*
    have h1:(w%256)^^^b[k]<256:=Nat.xor_lt_two_pow (n:=8) (by omega) (by omega)
    exact Nat.xor_lt_two_pow (n:=32) (by omega) (wF h1)
   ·rw[List.take_of_length_le (by omega)]
    rw[List.take_of_length_le hk]at ih
    exact ih
 refine ag.aj (hint:=(fun _=>false)) Tryz.func42 (by kernel_rfl) rfl [4] (by kernel_rfl) (by decide) (by simp[Tryz.ntmps42]) ?_
 rw[Tryz.ntmps42]
 simp -implicitDefEqProofs only[↓reduceIte,go_sem,Nat.reduceLT,Nat.reduceEqDiff,ta,tl]
 refine bW (fun k s H'=>H'=H++[.box 86 256 0 1 C]∧s 2= .ptr H.length 0 0 0∧s 5=wA ((b.take k).foldl (fun w c=>w/256^^^ky ((w%256)^^^c)) 4294967295)∧s 8= .d (.list nn (aD b))∧s 9=iA b.length∧s 10=iA k) b.length (by omega) (ay.refl _ _) ?_ ?_ ?_
 ·refine⟨rfl,?_⟩
  simp -implicitDefEqProofs only[↓reduceIte,go_sem,Nat.reduceLT,Nat.reduceEqDiff,ai]
  rfl
 ·rintro k s H' hk hw ⟨rfl,t2,t5,t8,t9,t10⟩
  have hx:(aD b)[k]?=some [.v (.int .u8 ((b[k]:Nat):Int))]:=by unfold aD;rw[List.getElem?_map,List.getElem?_eq_getElem hk];rfl
  have hc:=hb _ (List.getElem_mem hk)
  have hwl:=hlt k
  have e1:(b.take (k+1)).foldl (fun w c=>w/256^^^ky ((w%256)^^^c)) 4294967295=(fun w c=>w/256^^^ky ((w%256)^^^c)) ((b.take k).foldl (fun w c=>w/256^^^ky ((w%256)^^^c)) 4294967295) b[k]:=by rw[List.take_succ_eq_append_getElem hk,List.foldl_append];rfl
  rw[e1]
  generalize (b.take k).foldl (fun w c=>w/256^^^ky ((w%256)^^^c)) 4294967295=w at*
  generalize b[k]=c at*
  have sh:=Gj w 8 (by decide)
  rw[show((8:Nat):Int)=8 from rfl,show 2^8=256 from rfl]at sh
  have w8:=nT w
  have x8:IntKind.u8.wrap (sF .u8 ((w%256:Nat):Int) (c:Int))=(((w%256)^^^c:Nat):Int):=by
   rw[sZ .u8 _ c (by simp only[IntKind.bits];omega) (by simp only[IntKind.bits];omega),nT,Nat.mod_eq_of_lt (Nat.xor_lt_two_pow (n:=8) (by omega) (by omega))]
  have hj:(w%256)^^^c<256:=Nat.xor_lt_two_pow (n:=8) (by omega) (by omega)
  have hg:=tg _ hj
  have hr:=wF hj
  have hgt:List.take 1 (List.drop ((w%256)^^^c) C)=[wA (ky ((w%256)^^^c))]:=by
   obtain⟨h1,h2⟩:=List.getElem?_eq_some_iff.1 hg
   rw[List.drop_eq_getElem_cons h1,h2];rfl
  have hx32:=HK (a:=w/256) (b:=ky ((w%256)^^^c)) (by omega) hr
  generalize hjj:(w%256)^^^c=j at*
  generalize ((w%256:Nat):Int)=y at*
  generalize ((w/256:Nat):Int)=z at*
  simp -implicitDefEqProofs only[↓reduceIte,go_sem,ah,Nat.reduceLT,Nat.reduceLeDiff,Nat.reduceEqDiff,Int.reduceLE,t2,t5,t8,t9,t10,hk,hx,sh,w8,x8,tl,show((j:Int)<256)=True from eq_true (by omega),show j≤255 by omega,hgt,hx32]
  refine c9.same ⟨rfl,?_⟩
  simp -implicitDefEqProofs only[↓reduceIte,go_sem,Nat.reduceLT,Nat.reduceEqDiff,t2,t8,t9,hw,hjj]
 ·rintro s H' ⟨rfl,t2,t5,t8,t9,t10⟩
  have hn:=LJ (hlt b.length)
  have hs:(b.take b.length).foldl (fun w c=>w/256^^^ky ((w%256)^^^c)) 4294967295=lJ b:=by rw[List.take_length];rfl
  rw[hs]at hn t5
  simp -implicitDefEqProofs only[↓reduceIte,go_sem,Nat.reduceLT,Nat.reduceEqDiff,t5,t9,t10,hn]
  refine aw.ret ?_
  simp -implicitDefEqProofs only[↓reduceIte,go_sem,Nat.reduceLT]
def b8(n:Nat):AV:= .d (.v (.int .u8 n))
def fb(w i:Nat):List AV:=((dL w).take i).map b8++List.replicate (4-i) (b8 0)
theorem pd(w:Nat){i:Nat}(h:i≤4):(fb w i).length=4:=by simp[fb,dL];omega
theorem Fl(w:Nat):∀{i:Nat},i<4→(fb w i).take i++b8 (w/2^(8* i)%256)::(fb w i).drop (i+1)=fb w (i+1)
 |0,_=>by simp[fb,dL,List.replicate]
 |1,_=>by simp[fb,dL,List.replicate]
 |2,_=>by simp[fb,dL,List.replicate]
 |3,_=>by simp[fb,dL]
 |n+4,h=>by omega
theorem uw(w:Nat)(hw:w<4294967296)(H:aa):ag Tryz.prog 41 [.d (.v (.int .u32 w))] H (.ok (.agg ((dL w).map b8))) H:=by
 refine ag.bj (hint:=fun _=>false) Tryz.func41 (by kernel_rfl) rfl [.cell 2 83] (by kernel_rfl) (by simp[Tryz.ntmps41]) ?_
 rw[Tryz.ntmps41]
 have h0:[AV.d (D.v (.int .u8 0)),.d (.v (.int .u8 0)),.d (.v (.int .u8 0)),.d (.v (.int .u8 0))]=fb w 0:=rfl
 simp -implicitDefEqProofs only[go_sem]
 refine bW (fun i s H'=>H'=H++[.box 83 4 0 1 (fb w 0),.box 83 4 0 1 (fb w i)]∧s 0= .d (.v (.int .u32 w))∧s 2= .ptr H.length 0 0 0∧s 3= .ptr (H.length+1) 0 0 0∧s 5=iA i) 4 (by omega) (ay.refl _ _) ?_ ?_ ?_
 ·refine⟨rfl,?_⟩
  simp -implicitDefEqProofs only[↓reduceIte,go_sem,Nat.reduceLT,Nat.reduceEqDiff,reduceCtorEq]
 ·rintro i s H' hi hw' ⟨rfl,t0,t2,t3,t5⟩
  have hl:=pd w (i:=i) (by omega)
  have hset:=Fl w hi
  have m1:IntKind.i64.wrap (8* (i:Int))=((8* i:Nat):Int):=by rw[wrap64_in _ (by omega) (by omega)];omega
  have m2:IntKind.u64.wrap ((8* i:Nat):Int)=((8* i:Nat):Int):=aK _ (by omega)
  have sh:=Gj w (8* i) (by omega)
  have w8:=nT (w/2^(8* i))
  unfold b8 at hset
  generalize ((w/2^(8* i)%256:Nat):Int)=y at*
  generalize ((w/2^(8* i):Nat):Int)=z at*
  have q0:((0:Int)≤((8* i:Nat):Int))=True:=eq_true (by omega)
  generalize ((8* i:Nat):Int)=q at*
  generalize fb w (i+1)=C2 at*
  generalize fb w i=C at*
  generalize fb w 0=C0 at*
  simp -implicitDefEqProofs only[↓reduceIte,go_sem,au,Nat.reduceLT,Nat.reduceEqDiff,reduceCtorEq,t0,t3,t5,m1,m2,sh,w8,q0,hl,show((i:Int)<4)=True from eq_true (by omega),show i+1≤4 by omega,hset]
  refine c9.same ⟨rfl,?_⟩
  simp -implicitDefEqProofs only[↓reduceIte,go_sem,Nat.reduceLT,Nat.reduceEqDiff,reduceCtorEq,t0,t2,t3,hw']
 ·rintro s H' ⟨rfl,t0,t2,t3,t5⟩
  have e4:fb w 4=(dL w).map b8:=by simp[fb,dL]
  have l4:=pd w (i:=4) (by omega)
  have l0:=pd w (i:=0) (by omega)
  have f4:∀(G:aa) (m:Nat),(fb w 4).map (mu G m)=fb w 4:=fun G m=>by rw[e4,List.map_map];rfl
  have o4:(fb w 4).all AV.one=true:=by rw[e4];rfl
  have k4:List.take 4 (fb w 4)=fb w 4:=List.take_of_length_le (by omega)
  rw[←e4]
  generalize fb w 4=C at*
  generalize fb w 0=C0 at*
  have d0:C0.drop 4=[]:=List.drop_eq_nil_of_le (by omega)
  simp -implicitDefEqProofs only[↓reduceIte,go_sem,ah,au,Nat.reduceLT,Nat.reduceEqDiff,Int.reduceLT,t2,t3,t5,l4,l0,o4,k4,d0,List.take_zero,List.nil_append,List.append_nil]
  refine aZ.ret ?_
  simp -implicitDefEqProofs only[↓reduceIte,go_sem,ah,Nat.reduceLeDiff,Nat.reduceEqDiff,aJ,a8,t2,l4,k4,f4]
def qN(w:Nat):List D:=(dL w).map fun(n:Nat)=> .v (.int .u8 (n:Int))
theorem Gq(w:Nat):(dL w).map b8=(qN w).map AV.d:=by simp[qN,b8]
theorem DM(w:Nat):(qN w).map (fun d=>[d])=aD (dL w):=by simp[qN,aD]
def iK(b:List Nat):Nat:=4294967295-lJ b
theorem xl(b:List Nat):iK b<4294967296:=by unfold iK;omega
def bZ(b:List Nat):List Nat:=bp b.length++b++dL (iK b)
theorem oM(w:Nat):∀c∈dL w,c<256:=by
 intro c hc
 simp only[dL,List.mem_cons,List.not_mem_nil,or_false]at hc
 omega
theorem uU(b:List Nat)(nn:Bool)(hb:∀c∈b,c<256)(hl:b.length≤1000000000)(H:aa):ag Tryz.prog 22 [.d (.list nn (aD b))] H (.ok (.sl (H.length+1) ((bp b.length).length+2) 0 (bZ b).length)) (H++[.arr 83 4 1 [],.arr 5 1 ((bp b.length).length+2) (aD (bZ b))]):=by
 have hs:=fun H=>xS b nn hb (by omega) H
 have hc:=xl b
 have hf:=fun H=>uw (iK b) hc H
 rw[Gq]at hf
 have hl4:(qN (iK b)).length=4:=rfl
 have ho4:((qN (iK b)).map AV.d).all AV.one=true:=by simp[AV.one]
 have hb4:=DM (iK b)
 have hl4':((qN (iK b)).map AV.d).length=4:=by rw[List.length_map];exact hl4
 have hbl:(aD (dL (iK b))).length=4:=by rw[ai];rfl
 unfold bZ
 unfold iK at*
 generalize qN (4294967295-lJ b)=F at*
 generalize dL (4294967295-lJ b)=W at*
 have hpo:=fun H=>iH b.length (by omega) H
 have hpl:(bp b.length).length≤11:=by
  have:=bD 10 b.length (by omega)
  omega
 have hwl:W.length=4:=by rw[←ai];exact hbl
 generalize bp b.length=p at*
 have wl:IntKind.u64.wrap (b.length:Int)=(b.length:Int):=aK _ (by omega)
 have hex:∀o:aT,Ext (H++[.arr 83 4 1 []]) (H++[.arr 83 4 1 [],o]):=fun o=>by
  have:=Ext.app (H++[.arr 83 4 1 []]) [o]
  rwa[List.append_assoc]at this
 refine ag.aj (hint:=(fun t=>t==1000002)) Tryz.func22 (by kernel_rfl) rfl [2] (by kernel_rfl) (by decide) (by simp[Tryz.ntmps22]) ?_
 rw[Tryz.ntmps22]
 simp -implicitDefEqProofs only[go_sem,Nat.reduceAdd,Nat.reduceBEq]
 refine ae.ok (sR _) ?_
 simp -implicitDefEqProofs only[↓reduceIte,go_sem,Nat.reduceLT,Nat.reduceEqDiff,reduceCtorEq]
 refine ae.ok (hs _) ?_
 simp -implicitDefEqProofs only[↓reduceIte,go_sem,Nat.reduceLT]
 refine ae.ok (hf _) ?_
 generalize hFm:F.map AV.d=C at*
 have k4:List.take 4 C=C:=List.take_of_length_le (by omega)
 simp -implicitDefEqProofs only[↓reduceIte,go_sem,au,Nat.reduceAdd,Nat.reduceLT,Nat.reduceEqDiff,Nat.reduceBEq,hl4',ho4,List.append_nil]
 refine⟨_,_,ay.G9 _ _ 3 H.length 83 4 0 1 F (by simp -implicitDefEqProofs only[go_sem,hFm]) (by simp -implicitDefEqProofs only[↓reduceIte,go_sem,Nat.reduceLT]),?_⟩
 simp -implicitDefEqProofs only[go_sem]
 refine dK [some false,some false,some false,some true,some false,some true,none,some true] 3 (H++[.arr 83 4 1 []]) K.mixed (by kernel_rfl) (by kernel_rfl) (by kernel_rfl) (Ext.refl _) ?_
 simp -implicitDefEqProofs only[↓reduceIte,go_sem,Nat.reduceLT,reduceCtorEq,ai,wl]
 refine ae.ok (hpo _) ?_
 simp -implicitDefEqProofs only[↓reduceIte,go_sem,Nat.reduceLT,Nat.reduceLeDiff,Nat.reduceEqDiff,reduceCtorEq,aL,ai,dh,hl4,hb4,hwl]
 refine⟨hex _,by omega,by omega,hex _,by omega,by omega,hex _,?_⟩
 exact⟨_,ay.refl _ _,by simp -implicitDefEqProofs only[↓reduceIte,go_sem,Nat.reduceAdd,Nat.reduceLT,Nat.add_assoc]⟩
theorem Cf(b:List Nat)(nn:Bool)(hb:∀c∈b,c<256)(hl:b.length≤1000000000)(H:aa):ag Tryz.prog 22 [.d (.list nn (aD b))] H (.ok (.d (.list false (aD (bZ b))))) H:=by
 have h:=(uU b nn hb hl H).drop
 have hg:(H++[aT.arr 83 4 1 [],.arr 5 1 ((bp b.length).length+2) (aD (bZ b))])[H.length+1]?=some (.arr 5 1 ((bp b.length).length+2) (aD (bZ b))):=by simp
 rw[wx,rl,if_neg (by omega),hg]at h
 simp only[if_true,List.drop_zero]at h
 rwa[bQ _ _ (ai _)]at h
def eK(k c:Nat)(s:Sg):List Nat:=eD [k,c,s.aU.rows,s.aU.aA]++bR s.aA++cW s.aU.mn++cW s.aU.mx++s.body
def ku(k c:Nat)(s:Sg):List Nat:=bZ (eK k c s)
theorem s9(s:Sg)(k c:Nat)(hk:s.kind=(k:Int))(hc:s.bf=(c:Int))(hk2:k≤1000000)(hc2:c≤1000000)(hr:s.aU.rows≤1000000000)(hn:s.aU.aA≤1000000000)(hnl:s.aA.length≤1000000)(hbl:s.body.length≤900000000)
  (hi:(eJ s.aU.mn.i∧cA s.aU.mn=true)∧eJ s.aU.mx.i∧cA s.aU.mx=true) (hb:∀x∈s.body,x<256) (hb2:∀x∈eK k c s,x<256) (H:aa):
  ag Tryz.prog 15 [.agg s.cs] H (.ok (.sl (H.length+3) ((bp (eK k c s).length).length+2) 0 (ku k c s).length)) (H++[.box 30 12 0 1 s.cs,.arr 5 1 9 [],.arr 83 4 1 [],.arr 5 1 ((bp (eK k c s).length).length+2) (aD (ku k c s))]):=by
 have hv1:=fun H=>fX s.aU.mn hi.1.1 hi.1.2 H
 have hv2:=fun H=>fX s.aU.mx hi.2.1 hi.2.2 H
 have hnb:=fun H=>Ao s.aA false hnl H
 have hnu:=fun H=>qO [k,c,s.aU.rows,s.aU.aA] true (by simp) (fun n hn'=>by simp only[List.mem_cons,List.not_mem_nil,or_false]at hn';omega) H
 have hnl2:(eD [k,c,s.aU.rows,s.aU.aA]).length≤44:=by
  have h1:=bD 10 k (by omega)
  have h2:=bD 10 c (by omega)
  have h3:=bD 10 s.aU.rows (by omega)
  have h4:=bD 10 s.aU.aA (by omega)
  simp only[eD,List.flatMap_cons,List.flatMap_nil,List.length_append,List.length_nil]
  omega
 have hpl:(bR s.aA).length≤1000000:=by rw[cH];omega
 have hll1:=dk hi.1.1 hi.1.2
 have hll2:=dk hi.2.1 hi.2.2
 have hbk:∀o1 o2,ag Tryz.prog 22 [.d (.list false (aD (eK k c s)))] (H++[o1,o2]) (.ok (.sl (H.length+3) ((bp (eK k c s).length).length+2) 0 (bZ (eK k c s)).length)) (H++[o1,o2,.arr 83 4 1 [],.arr 5 1 ((bp (eK k c s).length).length+2) (aD (bZ (eK k c s)))]):=fun o1 o2=>by
  have:=uU (eK k c s) false hb2 (by unfold eK;simp only[List.length_append];omega) (H++[o1,o2])
  rwa[List.append_assoc,List.length_append]at this
 unfold ku
 have hcs:s.cs=[iA k,iA c,iA s.aU.rows,iA s.aU.aA,iA s.aU.mn.kind,iA s.aU.mn.i,sA s.aU.mn.s,iA s.aU.mx.kind,iA s.aU.mx.i,sA s.aU.mx.s,.d (.list false (bF s.aA)),.d (.list false (aD s.body))]:=by unfold Sg.cs;rw[hk,hc]
 rw[hcs]
 unfold eK at*
 have hnr:lb [k,c,s.aU.rows,s.aU.aA]=[[D.v (.int .i64 (k:Int))],[.v (.int .i64 (c:Int))],[.v (.int .i64 (s.aU.rows:Int))],[.v (.int .i64 (s.aU.aA:Int))]]:=rfl
 rw[hnr]at hnu
 generalize eD [k,c,s.aU.rows,s.aU.aA]=N at*
 generalize bR s.aA=PB at*
 generalize cW s.aU.mn=V1 at*
 generalize cW s.aU.mx=V2 at*
 generalize s.body=BD at*
 generalize s.aA=NL at*
 generalize s.aU.mn=mn at*
 generalize s.aU.mx=mx at*
 generalize s.aU.rows=rw at*
 generalize s.aU.aA=nu at*
 clear hcs hk hc
 have hE:∀o:aT,Ext (H++[.box 30 12 0 1 [iA k,iA c,iA rw,iA nu,iA mn.kind,iA mn.i,sA mn.s,iA mx.kind,iA mx.i,sA mx.s,.d (.list false (bF NL)),.d (.list false (aD BD))]]) (H++[.box 30 12 0 1 [iA k,iA c,iA rw,iA nu,iA mn.kind,iA mn.i,sA mn.s,iA mx.kind,iA mx.i,sA mx.s,.d (.list false (bF NL)),.d (.list false (aD BD))],o])=True:=fun o=>eq_true (Ext.gS H ⟨fun _=>rfl,trivial⟩)
 obtain⟨x,hx⟩:∃x,x=N++PB++V1++V2++BD:=⟨_,rfl⟩
 rw[←hx]at hbk⊢
 have hE3:∀T:aa,Ext (H++[.box 30 12 0 1 [iA k,iA c,iA rw,iA nu,iA mn.kind,iA mn.i,sA mn.s,iA mx.kind,iA mx.i,sA mx.s,.d (.list false (bF NL)),.d (.list false (aD BD))]]) (H++ .box 30 12 0 1 [iA k,iA c,iA rw,iA nu,iA mn.kind,iA mn.i,sA mn.s,iA mx.kind,iA mx.i,sA mx.s,.d (.list false (bF NL)),.d (.list false (aD BD))]::T)=True:=fun T=>eq_true (by have:=Ext.app (H++[.box 30 12 0 1 [iA k,iA c,iA rw,iA nu,iA mn.kind,iA mn.i,sA mn.s,iA mx.kind,iA mx.i,sA mx.s,.d (.list false (bF NL)),.d (.list false (aD BD))]]) T;rwa[List.append_assoc]at this)
 have hsetb:∀o1 o2 o3:aT,(H++[o1,o2]).set (H.length+1) o3=H++[o1,o3]:=fun o1 o2 o3=>by simp[]
 refine ag.aj (hint:=(fun _=>false)) Tryz.func15 (by kernel_rfl) rfl [2] (by kernel_rfl) (by decide) (by simp[Tryz.ntmps15]) ?_
 rw[Tryz.ntmps15]
 simp -implicitDefEqProofs only[↓reduceIte,go_sem,ah,Nat.reduceAdd,Nat.reduceLT,Nat.reduceLeDiff,Nat.reduceEqDiff]
 refine ae.ok (hnu _) ?_
 simp -implicitDefEqProofs only[↓reduceIte,go_sem,ah,Nat.reduceAdd,Nat.reduceLT,Nat.reduceLeDiff,Nat.reduceEqDiff]
 refine ae.ok (hv1 _) ?_
 simp -implicitDefEqProofs only[↓reduceIte,go_sem,ah,Nat.reduceAdd,Nat.reduceLT,Nat.reduceLeDiff,Nat.reduceEqDiff]
 refine ae.ok (hv2 _) ?_
 simp -implicitDefEqProofs only[↓reduceIte,go_sem,ah,Nat.reduceAdd,Nat.reduceLT,Nat.reduceLeDiff,Nat.reduceEqDiff]
 refine ae.ok (hnb _) ?_
 simp -implicitDefEqProofs only[↓reduceIte,go_sem,Nat.reduceAdd,Nat.reduceLT,Nat.reduceEqDiff,aL,ai,dh,List.length_cons,List.length_nil]
 refine⟨by omega,by omega,?_⟩
 refine dK [some false,some false,some true,some false,some true,none,none,some true,some true] 2 (H++[.box 30 12 0 1 [iA k,iA c,iA rw,iA nu,iA mn.kind,iA mn.i,sA mn.s,iA mx.kind,iA mx.i,sA mx.s,.d (.list false (bF NL)),.d (.list false (aD BD))]]) K.mixed (by kernel_rfl) (by kernel_rfl) (by kernel_rfl) (of_eq_true (hE _)) ?_
 simp -implicitDefEqProofs only[↓reduceIte,go_sem,ah,Nat.reduceAdd,Nat.reduceLT,Nat.reduceEqDiff,aL,ai,dh,hE]
 refine⟨by omega,by omega,by omega,by omega,by omega,by omega,by omega,by omega,?_⟩
 refine ae.sx [] (e:=5) (k:=1) (ver:=8) (es:=aD (N++PB++V1++V2++BD)) (by simp) (by rw[List.drop_zero,List.take_of_length_le (by rw[ai];simp only[List.length_append];omega),hsetb,←hx];exact hbk _ _) ?_
 simp -implicitDefEqProofs only[↓reduceIte,go_sem,Nat.reduceAdd,Nat.reduceLT,hE3]
 exact⟨_,ay.refl _ _,by simp -implicitDefEqProofs only[↓reduceIte,go_sem,Nat.reduceLT]⟩
theorem z8(s:Sg)(k c:Nat)(hk:s.kind=(k:Int))(hc:s.bf=(c:Int))(hk2:k≤1000000)(hc2:c≤1000000)(hr:s.aU.rows≤1000000000)(hn:s.aU.aA≤1000000000)(hnl:s.aA.length≤1000000)(hbl:s.body.length≤900000000)
  (hi:(eJ s.aU.mn.i∧cA s.aU.mn=true)∧eJ s.aU.mx.i∧cA s.aU.mx=true) (hb:∀x∈s.body,x<256) (hb2:∀x∈eK k c s,x<256) (H:aa):
  ag Tryz.prog 15 [.agg s.cs] H (.ok (.d (.list false (aD (ku k c s))))) H:=by
 have h:=(s9 s k c hk hc hk2 hc2 hr hn hnl hbl hi hb hb2 H).drop
 rw[wx,rl,if_neg (by omega),show ∀a b c d:aT,(H++[a,b,c,d])[H.length+3]?=some d from fun a b c d=>by simp]at h
 simp only[if_true,List.drop_zero]at h
 rwa[bQ _ _ (ai _)]at h
theorem kj{v:aq}(hi:eJ v.i)(hm:cA v=true):cb (cW v):=by
 unfold cW
 split
 ·exact dH (gM hi.1 hi.2)
 ·split
  ·exact yZ _
  ·split
   ·rename_i h3
    have hs:=mi hm h3
    intro c hc
    unfold kE at hc
    rcases List.mem_append.1 hc with h|h
    ·exact dH (n:=v.s.size) (by omega) c h
    ·exact zT _ c h
   ·intro c hc;simp at hc
theorem AR{l:List aq}{k:Int}(h:aS l k=0)(hok:∀v∈l,eJ v.i):cb (fY l):=by
 have hmay:=eu h
 have h4:=dO h
 have hwl:=kv l
 intro c hc
 unfold fY at hc
 rcases List.mem_append.1 hc with hc|hc
 ·rcases List.mem_append.1 hc with hc|hc
  ·exact dH (n:=(a7 aM l).length) (by omega) c hc
  ·obtain⟨v,hv,hc⟩:=List.mem_flatMap.1 hc
   have hv':=eU aG hv
   exact kj (hok v hv') (hmay v hv') c hc
 ·obtain⟨i,_,rfl⟩:=List.mem_map.1 hc
  exact mR _ _
theorem nH:∀(W:List aq),(∀v∈W,eJ v.i∧cA v=true)→(aY W).length≤W.length* 1035
 |[],_=>by simp[aY]
 |v::W,h=>by
  have h1:=nH W fun x hx=>h x (by simp[hx])
  have h2:=dk (h v (by simp)).1 (h v (by simp)).2
  have e:aY (v::W)=cW v++aY W:=by simp[aY]
  rw[e,List.length_append,List.length_cons]
  omega
theorem DA{l:List aq}{k:Int}(h:aS l k=0)(hok:∀v∈l,eJ v.i):(fY l).length≤10000000:=by
 have hmay:=eu h
 have h4:=dO h
 have hwl:=kv l
 have h1:=nH (a7 aM l) fun v hv=>⟨hok v (eU aG hv),hmay v (eU aG hv)⟩
 have h2:=bD 10 (a7 aM l).length (by omega)
 have hw:=og (n:=(a7 aM l).length) (by omega)
 have h3:(l.map (eL l)).length* dJ (a7 aM l).length≤4096* 12:=Nat.mul_le_mul (by rw[List.length_map];omega) hw
 unfold fY
 rw[List.length_append,List.length_append,cF,cH,dW]
 omega
theorem AD(l:List aq)(hl:l.length≤4096)(hok:∀v∈l,eJ v.i):(iN l).length≤100000:=by
 cases l with
 |nil=>simp[iN]
 |cons v r=>
  have hv:=hok v (by simp)
  have hz:=gM hv.1 hv.2
  have hw:=jg (j9 (v::r))
  have l1:=bD 10 (fj v.i) (by omega)
  have l2:=bD 10 (cw (bT (v::r))) (by omega)
  have h3:(bT (v::r)).length* cw (bT (v::r))≤4096* 64:=Nat.mul_le_mul (by rw[fo];omega) hw
  rw[lR,List.length_append,List.length_append,cF,cH,dW]
  omega
theorem Ai(l:List aq)(hok:∀v∈l,eJ v.i):cb (iN l):=by
 cases l with
 |nil=>intro n hn;simp[iN]at hn
 |cons v r=>
  have h:=hok v (by simp)
  exact((dH (gM h.1 h.2)).app (dH (by have:=jg (j9 (v::r));omega))).app (BO _ _)
theorem Aw{l:List aq}(h:∀v∈l,eJ v.i∧cA v=true):cb (aY l):=fun c hc=>by
 obtain⟨v,hv,hc⟩:=List.mem_flatMap.1 hc
 exact kj (h v hv).1 (h v hv).2 c hc
theorem Jm{r:Nat×aq}(h1:r.1≤4096)(h2:eJ r.2.i∧cA r.2=true):cb (kd r)∧(kd r).length≤1050:=by
 have h3:=bD 10 r.1 (by omega)
 have h4:=dk h2.1 h2.2
 refine⟨(dH (by omega)).app (kj h2.1 h2.2),?_⟩
 unfold kd
 rw[List.length_append];omega
theorem C6:∀{R:List (Nat×aq)},(∀r∈R,r.1≤4096∧eJ r.2.i∧cA r.2=true)→cb (eC R)∧(eC R).length≤R.length* 1050
 |[],_=>⟨fun c hc=>by simp[eC]at hc,by simp[eC]⟩
 |r::R,h=>by
  obtain⟨h1,h2⟩:=C6 (R:=R) fun x hx=>h x (by simp[hx])
  obtain⟨h3,h4⟩:=Jm (h r (by simp)).1 (h r (by simp)).2
  have e:eC (r::R)=kd r++eC R:=by simp[eC]
  rw[e]
  exact⟨h3.app h1,by rw[List.length_append,List.length_cons];omega⟩
theorem vW{l:List aq}{k w:Int}(hp:aS l k=0)(hok:∀v∈l,eJ v.i):cb (bU l k w).1∧(bU l k w).1.length≤10000000:=by
 have hmay:=eu hp
 have h4:=dO hp
 have hv:∀v∈l,eJ v.i∧cA v=true:=fun v hv=>⟨hok v hv,hmay v hv⟩
 unfold bU
 split
 ·rw[show iI l k=aY l from if_pos hp]
  exact⟨Aw hv,by have:=nH l hv;simp only;omega⟩
 split
 ·rw[show qQ l k=eC (cZ l)from if_pos hp]
  have h1:=ka l l.length
  have h2:=kr l l.length
  rw[List.take_length]at h1 h2
  have h3:=mL (p:=fun v=>eJ v.i∧cA v=true) (l:=l) hv
  obtain⟨g1,g2⟩:=C6 (R:=cZ l) fun r hr=>⟨by have:=h2 r hr;omega,h3 r hr⟩
  exact⟨g1,by simp only;omega⟩
 split
 ·rw[show ju l k=fY l from if_pos hp]
  exact⟨AR hp hok,DA hp hok⟩
 split
 ·unfold j4
  split
  ·exact⟨Ai l hok,by have:=AD l h4 hok;simp only;omega⟩
  ·exact⟨fun c hc=>by simp at hc,by simp⟩
 ·exact⟨fun c hc=>by simp at hc,by simp⟩
theorem lh{l:List aq}{k w:Int}(h:(bU l k w).2=0):1≤w∧w≤4∧(w=4→k=1):=by
 unfold bU at h
 split at h
 ·omega
 split at h
 ·omega
 split at h
 ·omega
 split at h
 ·omega
 ·simp at h
def uD(v:aq):Prop:=eJ v.i∧cA v=true
def uk(z:Zn):Prop:=uD z.mn∧uD z.mx
theorem yB{z:Zn}{v:aq}(hz:uk z)(hv:v.kind≠0→uD v):uk (aW z v):=by
 unfold aW
 split
 ·exact hz
 rename_i hk
 have hv:=hv hk
 have h1:uk (ff z v):=by unfold ff;split;exact⟨hv,hv⟩;exact hz
 have h2:uk (fg (ff z v) v):=by unfold fg;split;exact⟨hv,h1.2⟩;exact h1
 unfold gO;split;exact⟨h2.1,hv⟩;exact h2
theorem sw{l:List aq}(h:∀v∈l,v.kind≠0→uD v):uk (bu l):=by
 have:∀(l:List aq) (z:Zn),(∀v∈l,v.kind≠0→uD v)→uk z→uk (l.foldl aW z):=by
  intro l
  induction l with
  |nil=>exact fun z _ h=>h
  |cons v l ih=>exact fun z hl hz=>ih _ (fun x hx=>hl x (by simp[hx])) (yB hz (hl v (by simp)))
 have e0:uD ⟨0,0,cP⟩:=⟨⟨by decide,by decide⟩,by simp[cA,gl]⟩
 exact this l _ h ⟨e0,e0⟩
theorem uc(z:Zn)(v:aq):(aW z v).rows=z.rows:=by
 unfold aW
 split
 ·rfl
 ·unfold gO;split<;>(unfold fg;split<;>(unfold ff;split<;>rfl))
theorem gm(l:List aq):(bu l).rows=l.length:=by
 have:∀(m:List aq) (z:Zn),(m.foldl aW z).rows=z.rows:=by
  intro m
  induction m with
  |nil=>exact fun z=>rfl
  |cons v m ih=>exact fun z=>(ih _).trans (uc z v)
 exact this l _
theorem sI(z:Zn)(v:aq):(aW z v).aA=z.aA+if v.kind=0 then 1 else 0:=by
 unfold aW
 split
 ·rfl
 ·have e1:(ff z v).aA=z.aA:=by unfold ff;split<;>rfl
  have e2:∀z,(fg z v).aA=z.aA:=fun z=>by unfold fg;split<;>rfl
  have e3:∀z,(gO z v).aA=z.aA:=fun z=>by unfold gO;split<;>rfl
  rw[e3,e2,e1];rfl
theorem gq(l:List aq):(bu l).aA=aC (bL l):=by
 have:∀(m:List aq) (z:Zn),(m.foldl aW z).aA=z.aA+aC (bL m):=by
  intro m
  induction m with
  |nil=>exact fun z=>rfl
  |cons v m ih=>
   intro z
   rw[List.foldl_cons,ih,sI]
   have e:aC (bL (v::m))=(if v.kind=0 then 1 else 0)+aC (bL m):=by
    unfold bL aC
    rw[List.map_cons,List.countP_cons]
    by_cases h:v.kind=0<;>simp[h]<;>omega
   rw[e];omega
 rw[bu,this l _]
 simp
structure Made (l:List aq) (k w:Int) (s:Sg):Prop where
 o7:aS (aE l) k=0
 len:l.length≤4096
 CS:(bU (aE l) k (bX l k w)).2=0
 eq:s=⟨k,bX l k w,bu l,bY l,(bU (aE l) k (bX l k w)).1⟩
theorem px{l:List aq}{k w:Int}(h:(ee l k w).2=0):Made l k w (ee l k w).1:=by
 unfold ee at*
 split at h
 ·rename_i he;exact absurd h he
 rename_i h1
 rw[if_neg h1]
 split at h
 ·simp at h
 rename_i h2
 rw[if_neg h2]
 split at h
 ·rename_i he;exact absurd h he
 rename_i h3
 rw[if_neg h3]
 exact⟨by simpa using h1,by omega,by simpa using h3,rfl⟩
theorem kG{l:List aq}{v:aq}(h:v∈aE l):v∈l:=(List.mem_filter.1 h).1
theorem Jh{l:List aq}{v:aq}(h:v∈l)(hk:v.kind≠0):v∈aE l:=List.mem_filter.2 ⟨h,by simpa using hk⟩
theorem Made.Il{l:List aq}{k w:Int}{s:Sg}(h:Made l k w s)(hok:∀v∈l,eJ v.i):∀v∈l,v.kind≠0→iC k v:=fun v hv hk=>by
 have hs:=Jh hv hk
 have:=((dB _ _).1 h.o7).2.2 v hs
 exact⟨this.2,this.1,hok v hv⟩
theorem Made.bytes{l:List aq}{k w:Int}{s:Sg}(hm:Made l k w s)(hok:∀v∈l,eJ v.i):∃kn cn:Nat,k=(kn:Int)∧1≤kn∧kn≤3∧bX l k w=(cn:Int)∧1≤cn∧cn≤4∧cb (eK kn cn s)∧(eK kn cn s).length≤20000000∧(∀H,ag Tryz.prog 15 [.agg s.cs] H (.ok (.d (.list false (aD (ku kn cn s))))) H)∧
  ∀H:aa,ag Tryz.prog 15 [.agg s.cs] H (.ok (.sl (H.length+3) ((bp (eK kn cn s).length).length+2) 0 (ku kn cn s).length)) (H++[.box 30 12 0 1 s.cs,.arr 5 1 9 [],.arr 83 4 1 [],.arr 5 1 ((bp (eK kn cn s).length).length+2) (aD (ku kn cn s))]):=by
 have hk:=((dB _ _).1 hm.o7).1
 rw[fD]at hk
 obtain⟨c1,c2,_⟩:=lh hm.CS
 have hz:uk (bu l):=sw fun v hv hk=>⟨hok v hv,(hm.Il hok v hv hk).1⟩
 have hnu:=gq l
 have hro:=gm l
 have hcl:=ef (bL l)
 have hnl:=dN l
 obtain⟨b1,b2⟩:=vW (w:=bX l k w) hm.o7 fun v hv=>hok v (kG hv)
 have hml:(bY l).length≤4096:=by have:=hm.len;unfold bY;split;simp;omega
 have hl4:=hm.len
 have hlen1:=bD 10 k.toNat (by omega)
 have hlen2:=bD 10 (bX l k w).toNat (by omega)
 have hlen3:=bD 10 (bu l).rows (by omega)
 have hlen4:=bD 10 (bu l).aA (by omega)
 have hb2:cb (eK k.toNat (bX l k w).toNat s):=by
  rw[hm.eq]
  unfold eK
  simp only
  refine((((?_:cb _).app ?_).app (kj hz.1.1 hz.1.2)).app (kj hz.2.1 hz.2.2)).app b1
  ·intro c hc
   obtain⟨x,hx,hc⟩:=List.mem_flatMap.1 hc
   simp only[List.mem_cons,List.not_mem_nil,or_false]at hx
   exact dH (by omega) c hc
  ·intro c hc
   obtain⟨i,_,rfl⟩:=List.mem_map.1 hc
   exact mR _ _
 have hv1:=dk hz.1.1 hz.1.2
 have hv2:=dk hz.2.1 hz.2.2
 have pre:= @s9 s k.toNat (bX l k w).toNat (by rw[hm.eq];simp only;omega) (by rw[hm.eq];simp only;omega) (by omega) (by omega) (by rw[hm.eq];simp only;omega) (by rw[hm.eq];simp only;omega) (by rw[hm.eq];simp only;omega) (by rw[hm.eq];simp only;omega) (by rw[hm.eq];exact hz) (by rw[hm.eq];exact b1) hb2
 have pre2:= @z8 s k.toNat (bX l k w).toNat (by rw[hm.eq];simp only;omega) (by rw[hm.eq];simp only;omega) (by omega) (by omega) (by rw[hm.eq];simp only;omega) (by rw[hm.eq];simp only;omega) (by rw[hm.eq];simp only;omega) (by rw[hm.eq];simp only;omega) (by rw[hm.eq];exact hz) (by rw[hm.eq];exact b1) hb2
 refine⟨k.toNat,(bX l k w).toNat,by omega,by omega,by omega,by omega,by omega,by omega,hb2,?_,pre2,pre⟩
 rw[hm.eq]
 unfold eK
 simp only[List.length_append,eD,List.flatMap_cons,List.flatMap_nil,List.length_nil,cH]
 omega
def Ch:Option aq→List (Nat×aq)→Prop
 |_,[]=>True
 |o,r::R=>o≠some r.2∧Ch (some r.2) R
def qv(o:Option aq):List (Nat×aq)→Option aq
 |[]=>o
 |r::R=>qv (some r.2) R
theorem rm:∀(o:Option aq) (R:List (Nat×aq)) (r:Nat×aq),Ch o (R++[r])↔Ch o R∧qv o R≠some r.2
 |o,[],r=>by simp[Ch,qv]
 |o,x::R,r=>by
  show(o≠some x.2∧Ch (some x.2) (R++[r]))↔(o≠some x.2∧Ch (some x.2) R)∧qv (some x.2) R≠some r.2
  rw[rm,and_assoc]
theorem nM:∀(o:Option aq) (R:List (Nat×aq)) (r:Nat×aq),qv o (R++[r])=some r.2
 |o,[],r=>rfl
 |o,x::R,r=>nM (some x.2) R r
theorem sK{R:List (Nat×aq)}(h:R≠[]):qv none R=some (cM R).2:=by
 have e:=List.dropLast_concat_getLast h
 have e2:cM R=R.getLast h:=by unfold cM;rw[List.getLast?_eq_some_getLast h];rfl
 rw[e2]
 have:=nM none R.dropLast (R.getLast h)
 rwa[e]at this
def mU(R:List (Nat×aq)):Nat:=(R.map (·.1)).sum
def kH(R:List (Nat×aq)):List aq:=R.flatMap fun r=>List.replicate r.1 r.2
theorem ph(R S:List (Nat×aq)):kH (R++S)=kH R++kH S:=by simp[kH]
theorem Eu(R:List (Nat×aq)):(kH R).length=mU R:=by
 induction R with
 |nil=>rfl
 |cons r R ih=>simp[kH,mU]at ih⊢
theorem y4(R:List (Nat×aq))(h:mU R≤4096):cf R=kH R:=by
 have:∀(R:List (Nat×aq)) (l:List aq),l.length+mU R≤4096→R.foldl cx l=l++kH R:=by
  intro R
  induction R with
  |nil=>intro l _;simp[kH]
  |cons r R ih=>
   intro l h
   have e:mU (r::R)=r.1+mU R:=by simp[mU]
   rw[e]at h
   rw[List.foldl_cons,ih _ (by simp only[cx,List.length_append,List.length_replicate];omega)]
   have e2:min r.1 (4096-l.length)=r.1:=by omega
   simp[cx,e2,kH]
 have:=this R [] (by simpa using h)
 simpa[cf]using this
structure BC (l:List aq) (R:List (Nat×aq)):Prop where
 ch:Ch none R
 flat:kH R=l
 one:∀r∈R,1≤r.1
theorem BC.add{l:List aq}{R:List (Nat×aq)}(h:BC l R)(v:aq):BC (l++[v]) (gH R v):=by
 unfold gH
 by_cases c:R≠[]∧(cM R).2=v
 ·rw[if_pos c]
  obtain⟨hne,hv⟩:=c
  have e:=List.dropLast_concat_getLast hne
  have e2:cM R=R.getLast hne:=by unfold cM;rw[List.getLast?_eq_some_getLast hne];rfl
  rw[e2]at hv⊢
  obtain⟨h1,h2,h3⟩:=h
  generalize R.getLast hne=q at*
  generalize R.dropLast=D at*
  subst e
  obtain⟨n,w⟩:=q
  simp only at hv⊢
  subst hv
  rw[rm]at h1
  refine⟨(rm _ _ _).2 h1,?_,fun r hr=>?_⟩
  ·rw[←h2,ph,ph,List.append_assoc]
   congr 1
   simp[kH,List.replicate_succ']
  ·rcases List.mem_append.1 hr with hr|hr
   ·exact h3 r (by simp[hr])
   ·rw[List.mem_singleton.1 hr];simp only;omega
 ·rw[if_neg c]
  refine⟨(rm _ _ _).2 ⟨h.ch,fun hl=>?_⟩,?_,fun r hr=>?_⟩
  ·by_cases hne:R=[]
   ·subst hne;simp[qv]at hl
   ·rw[sK hne]at hl
    exact c ⟨hne,Option.some.inj hl⟩
  ·rw[ph,h.flat];simp[kH]
  ·rcases List.mem_append.1 hr with hr|hr
   ·exact h.one r hr
   ·rw[List.mem_singleton.1 hr];simp
theorem JC(l:List aq):BC l (cZ l):=by
 have:∀(m l:List aq) (R:List (Nat×aq)),BC l R→BC (l++m) (m.foldl gH R):=by
  intro m
  induction m with
  |nil=>intro l R h;simpa using h
  |cons v m ih=>
   intro l R h
   have:=ih _ _ (h.add v)
   rwa[List.append_assoc]at this
 have h0:BC [] []:=⟨trivial,rfl,by simp⟩
 simpa[cZ]using this l [] [] h0
theorem Ec{k:Int}(hk:bJ k=true)(q:Nat×aq)(n:Nat)(r:List Nat)(h1:1≤q.1)(hn:q.1≤n)(h4:q.1≤4096)(hg:iC k q.2):dS (kd q++r) n k=(q,r,0):=by
 obtain⟨m,w⟩:=q
 simp only at h1 hn h4 hg
 unfold dS kd
 simp only
 rw[List.append_assoc,gN m (by omega)]
 simp only
 rw[List.drop_left' rfl]
 have ho:=rh (v:=w) r hg.2.2 hg.1 (by rw[hg.2.1];exact hk)
 rw[hg.2.1]at ho
 rw[ho]
 simp only
 rw[if_neg (by simp),if_neg (by omega),if_neg (by simp)]
theorem Dq{k:Int}(hk:bJ k=true):∀(R A:List (Nat×aq)) (f:Nat),Ch (qv none A) R→(∀r∈R,1≤r.1∧r.1≤4096∧iC k r.2)→R.length≤f→rq k f A (mU R) (eC R)=(A++R,[],0)
 |[],A,f,_,_,_=>by cases f<;>simp[rq,mU,eC]
 |r::R,A,0,_,_,hf=>by simp at hf
 |r::R,A,f+1,hc,hg,hf=>by
  obtain⟨g1,g2,g3⟩:=hg r (by simp)
  have e:mU (r::R)=r.1+mU R:=by simp[mU]
  have e2:eC (r::R)=kd r++eC R:=by simp[eC]
  have hn:=Ec hk r (r.1+mU R) (eC R) g1 (by omega) g2 g3
  unfold rq
  rw[e,e2,if_neg (by omega),hn]
  simp only
  rw[if_neg (by simp)]
  have hne:¬(A≠[]∧(cM A).2=r.2):=by
   rintro⟨h1,h2⟩
   rw[sK h1,h2]at hc
   exact hc.1 rfl
  rw[if_neg hne,show r.1+mU R-r.1=mU R by omega]
  have:=Dq hk R (A++[r]) f (by rw[nM];exact hc.2) (fun x hx=>hg x (by simp[hx])) (by simpa using hf)
  rw[this,List.append_assoc];rfl
theorem xw{l:List aq}{k:Int}(h:aS l k=0)(hok:∀v∈l,eJ v.i):fU (eC (cZ l)) l.length k=(l,0):=by
 obtain⟨hk,hl,hv⟩:=(dB l k).1 h
 have hR:=JC l
 have hgR:=mL (p:=iC k) (l:=l) fun v hm=>⟨(hv v hm).2,(hv v hm).1,hok v hm⟩
 have hcnt:=kr l l.length
 have hlen:=ka l l.length
 rw[List.take_length]at hcnt hlen
 have hs:mU (cZ l)=l.length:=by rw[←Eu,hR.flat]
 have ht:=Dq hk (cZ l) [] l.length hR.ch (fun r hr=>⟨hR.one r hr,by have:=hcnt r hr;omega,hgR r hr⟩) hlen
 rw[hs,List.nil_append]at ht
 have hto:cU (eC (cZ l)) l.length k=(cZ l,0):=by
  unfold cU
  rw[if_neg (by simp[hk]),if_neg (by omega),if_neg (by omega),Int.toNat_natCast,ht]
  simp
 unfold fU
 rw[hto]
 simp only
 rw[if_neg (by simp),y4 _ (by omega),hR.flat]
theorem tB{l:List aq}{k:Int}(h:aS l k=0)(hok:∀v∈l,eJ v.i):de (aY l) l.length k=(l,0):=by
 obtain⟨hk,hl,hv⟩:=(dB l k).1 h
 have:=py hk l [] fun v hm=>⟨(hv v hm).2,(hv v hm).1,hok v hm⟩
 rw[List.append_nil]at this
 unfold de
 rw[if_neg (by simp[hk]),if_neg (by omega),if_neg (by omega),Int.toNat_natCast,this]
 simp
theorem vU{l:List aq}(h:aS l 1=0):∀v∈l,v=cG v.i:=fun v hv=>by
 obtain⟨_,_,hg⟩:=(dB l 1).1 h
 obtain⟨g1,g2⟩:=hg v hv
 exact lz g1 rfl ((mf g1).1 g2)
theorem DR{l:List aq}{k w:Int}(h:aS l k=0)(hb:(bU l k w).2=0)(hok:∀v∈l,eJ v.i):gj (bU l k w).1 l.length k w=(l,0):=by
 unfold bU at*
 unfold gj
 by_cases h1:w=1
 ·rw[if_pos h1,if_pos h1]
  rw[show iI l k=aY l from if_pos h]
  exact tB h hok
 rw[if_neg h1,if_neg h1]at*
 by_cases h2:w=2
 ·rw[if_pos h2,if_pos h2]
  rw[show qQ l k=eC (cZ l)from if_pos h]
  exact xw h hok
 rw[if_neg h2,if_neg h2]at*
 by_cases h3:w=3
 ·rw[if_pos h3,if_pos h3]
  rw[show ju l k=fY l from if_pos h]
  exact(uj h hok).2
 rw[if_neg h3,if_neg h3]at*
 by_cases h4:w=4∧k=1
 ·rw[if_pos h4,if_pos h4]
  obtain⟨_,rfl⟩:=h4
  by_cases hl:l=[]
  ·subst hl
   simp[j4,mW]
  ·have:=HQ l hl ((dB l 1).1 h).2.1 (vU h) hok
   simp only[j4]
   rw[if_pos ⟨h,hl⟩,this]
   rfl
 ·rw[if_neg h4]at hb
  simp at hb
def fz:Nat→List Nat→List Nat→List Nat×List Nat×Int
 |0,b,acc=>(acc,b,0)
 |f+1,b,acc=>if(aQ b).2.2≠0 then([],[],(aQ b).2.2)else fz f (b.drop (aQ b).2.1) (acc++[min (aQ b).1 1048576])
def dj(l:List Nat):Bool:=decide (1≤l.getD 0 0)&&decide (l.getD 0 0≤3)&&decide (l.getD 2 0≤4096)&&decide (l.getD 3 0≤l.getD 2 0)
def ng(l:List Nat):Sg:=⟨(l.getD 0 0:Nat),(l.getD 1 0:Nat),⟨l.getD 2 0,l.getD 3 0,⟨0,0,cP⟩,⟨0,0,cP⟩⟩,[],[]⟩
def cN(b:List Nat):Sg×List Nat×Int:=
 if(fz 4 b []).2.2≠0 then(jI,[],(fz 4 b []).2.2)
 else if dj (fz 4 b []).1=false then(jI,[],4)
 else(ng (fz 4 b []).1,(fz 4 b []).2.1,0)
def od(l:List Nat)(n:Nat):List AV:=(l++List.replicate n 0).map fun(x:Nat)=>iA x
theorem pU:∀(f:Nat) (b acc:List Nat),(fz f b acc).2.2=0→(fz f b acc).1.length=acc.length+f
 |0,b,acc,_=>rfl
 |f+1,b,acc,h=>by
  unfold fz at h⊢
  split at h
  ·rename_i he;exact absurd h he
  ·rename_i he
   rw[if_neg he,pU f _ _ h]
   simp;omega
theorem ou:∀(f:Nat) (b acc:List Nat),∃j,(fz f b acc).2.1=b.drop j∨(fz f b acc).2.1=[]
 |0,b,acc=>⟨0,.inl rfl⟩
 |f+1,b,acc=>by
  unfold fz
  split
  ·exact⟨0,.inr rfl⟩
  ·obtain⟨j,h⟩:=ou f (b.drop (aQ b).2.1) (acc++[min (aQ b).1 1048576])
   rcases h with h|h
   ·exact⟨(aQ b).2.1+j,.inl (by rw[h,List.drop_drop])⟩
   ·exact⟨0,.inr h⟩
theorem FG(b:List Nat)(hb:∀c∈b,c<256)(hl:b.length≤140737488351232)(H:aa):
  ag Tryz.prog 19 [.d (.list false (aD b))] H (.ok (.bz [.agg (cN b).1.cs,.d (.list false (aD (cN b).2.1)),iA (cN b).2.2])) H:=by
 obtain⟨q,hq⟩:∃q,q=fz 4 b []:=⟨_,rfl⟩
 have hhp:cN b=if q.2.2≠0 then(jI,[],q.2.2)else if dj q.1=false then(jI,[],4)else(ng q.1,q.2.1,0):=by rw[hq];rfl
 rw[hhp]
 have hql:q.2.2=0→q.1.length=4:=fun h=>by rw[hq]at h⊢;rw[pU 4 b [] h];rfl
 suffices h:ag Tryz.prog 19 [.d (.list false (aD b))] H (.ok (if q.2.2≠0 then .bz [.agg ey,.d (.v (.slice none 0 0)),iA q.2.2]else if dj q.1=false then .bz [.agg ey,.d (.v (.slice none 0 0)),iA 4]
   else .bz [.agg [iA (q.1.getD 0 0:Nat),iA (q.1.getD 1 0:Nat),iA (q.1.getD 2 0:Nat),iA (q.1.getD 3 0:Nat),iA 0,iA 0,sA cP,iA 0,iA 0,sA cP,.d (.v (.slice none 0 0)),.d (.v (.slice none 0 0))],.d (.list false (aD q.2.1)),iA 0])) H by
  by_cases c1:q.2.2≠0
  ·rw[if_pos c1]at h⊢
   exact ag.bE h (.cons fJ (.cons .nil (.cons (.refl _) .nil)))
  ·rw[if_neg c1]at h⊢
   by_cases c2:dj q.1=false
   ·rw[if_pos c2]at h⊢
    exact ag.bE h (.cons fJ (.cons .nil (.cons (.refl _) .nil)))
   ·rw[if_neg c2]at h⊢
    exact ag.bE h (.cons (.agg (.cons (.refl _) (.cons (.refl _) (.cons (.refl _) (.cons (.refl _) (.cons (.refl _) (.cons (.refl _) (.cons (.refl _) (.cons (.refl _) (.cons (.refl _) (.cons (.refl _) (.cons .nil (.cons .nil .nil))))))))))))) (.cons (.refl _) (.cons (.refl _) .nil)))
 refine ag.bj (hint:=fun _=>false) Tryz.func19 (by kernel_rfl) rfl [.cell 2 30,.tmp 3,.tmp 4] (by kernel_rfl) (by simp[Tryz.ntmps19]) ?_
 rw[Tryz.ntmps19]
 simp -implicitDefEqProofs only[go_sem]
 refine bW (fun k s H'=>∃c acc,H'=H++[.box 30 12 0 1 [iA 0,iA 0,iA 0,iA 0,iA 0,iA 0,sA ⟨#[]⟩,iA 0,iA 0,sA ⟨#[]⟩,.d (.v (.slice none 0 0)),.d (.v (.slice none 0 0))],.box 88 4 0 1 (od acc (4-k))]∧fz (4-k) c acc=q∧acc.length=k∧c.length≤b.length∧(∀x∈c,x<256)∧(∀x∈acc,x≤1048576)∧s 0= .d (.list false (aD c))∧s 2= .ptr H.length 0 0 0∧s 5= .ptr (H.length+1) 0 0 0∧s 11=iA k) 4 (by omega) (ay.refl _ _) ?_ ?_ ?_
 ·refine⟨b,[],rfl,hq.symm,rfl,Nat.le_refl _,hb,by simp,?_⟩
  simp -implicitDefEqProofs only[↓reduceIte,go_sem,Nat.reduceLT,Nat.reduceEqDiff,reduceCtorEq]
 ·rintro k s H' hk hw ⟨c,acc,rfl,hF,hal,hcl,hcb,hac,t0,t2,t5,t11⟩
  have hg:=fun H=>oQ c (by omega) hcb H
  have hle:=eO c
  obtain⟨m,hm⟩:∃m,4-k=m+1:=⟨3-k,by omega⟩
  rw[hm]at hF
  unfold fz at hF
  generalize aQ c=g at*
  obtain⟨n,j,e⟩:=g
  simp only at hF hg hle
  simp -implicitDefEqProofs only[↓reduceIte,go_sem,Nat.reduceLT,Nat.reduceEqDiff,reduceCtorEq,t0,t11,show((k:Int)<4)=True from eq_true (by omega)]
  refine ae.ok (hg _) ?_
  by_cases he:e=0
  ·subst he
   rw[if_neg (by simp)]at hF
   have hmin:min (n:Int) 1048576=((min n 1048576:Nat):Int):=by omega
   have w1:IntKind.i64.wrap ((min n 1048576:Nat):Int)=((min n 1048576:Nat):Int):=wrap64_in _ (by omega) (by omega)
   have hmle:min n 1048576≤1048576:=by omega
   generalize min n 1048576=y at*
   have hzl:(od acc (4-k)).length=4:=by simp[od];omega
   have hset:List.take k (od acc (4-k))++iA y::List.drop (k+1) (od acc (4-k))=od (acc++[y]) (4-(k+1)):=by
    unfold od
    rw[hm,show 4-(k+1)=m by omega]
    subst hal
    simp[List.replicate_succ,List.drop_append]
   generalize od acc (4-k)=Z at*
   have htl:List.take c.length (aD c)=aD c:=List.take_of_length_le (Nat.le_of_eq (ai c))
   have hdj:List.drop j (aD c)=aD (c.drop j):=by unfold aD;rw[List.map_drop]
   simp -implicitDefEqProofs only[↓reduceIte,go_sem,au,Nat.reduceLT,Nat.reduceLeDiff,Nat.reduceEqDiff,reduceCtorEq,t0,t5,t11,hmin,w1,hzl,show((k:Int)<4)=True from eq_true (by omega),show k≤3 by omega,hset,aL,ai,htl,hdj]
   refine⟨by omega,?_⟩
   refine c9.same ⟨c.drop j,acc++[y],rfl,by rw[show 4-(k+1)=m by omega];exact hF,by simp[hal],by rw[List.length_drop];omega,fun x hx=>hcb x (List.mem_of_mem_drop hx),?_,?_⟩
   ·intro x hx
    rcases List.mem_append.1 hx with h|h
    ·exact hac x h
    ·rw[List.mem_singleton.1 h];exact hmle
   ·simp -implicitDefEqProofs only[↓reduceIte,go_sem,Nat.reduceLT,Nat.reduceEqDiff,reduceCtorEq,t2,t5,hw]
  ·rw[if_pos he]at hF
   have hq2:q.2.2=e:=by rw[←hF]
   simp -implicitDefEqProofs only[↓reduceIte,go_sem,au,Nat.reduceAdd,Nat.reduceLT,Nat.reduceEqDiff,he,t2]
   rw[hq2,if_pos he]
   refine aZ.ret ?_
   simp -implicitDefEqProofs only[↓reduceIte,go_sem,ah,Nat.reduceAdd,Nat.reduceLT,Nat.reduceLeDiff,Nat.reduceEqDiff,aJ,a8,t2,ey,cP]
 ·rintro s H' ⟨c,acc,rfl,hF,hal,hcl,hcb,hac,t0,t2,t5,t11⟩
  have hq1:q=(acc,c,0):=hF.symm
  rw[hq1]
  obtain⟨a0,a1,a2,a3,rfl⟩:∃a0 a1 a2 a3,acc=[a0,a1,a2,a3]:=by
   match acc,hal with
   |[a0,a1,a2,a3],_=>exact⟨_,_,_,_,rfl⟩
  have hz:od [a0,a1,a2,a3] (4-4)=[iA a0,iA a1,iA a2,iA a3]:=rfl
  rw[hz]
  rw[if_neg (by simp)]
  simp only[List.getD_eq_getElem?_getD,List.getElem?_cons_zero,List.getElem?_cons_succ,Option.getD_some]
  simp -implicitDefEqProofs only[↓reduceIte,go_sem,ah,au,Nat.reduceAdd,Nat.reduceLT,Nat.reduceLeDiff,Nat.reduceEqDiff,Int.reduceLE,Int.reduceLT,Int.reduceToNat,t5,t11]
  by_cases h1:a0<1
  ·have hno:dj [a0,a1,a2,a3]=false:=by unfold dj;simp;omega
   rw[if_pos hno]
   simp -implicitDefEqProofs only[↓reduceIte,go_sem,au,Nat.reduceAdd,Nat.reduceLT,Nat.reduceEqDiff,show((a0:Int)<1)=True from eq_true (by omega),t2]
   refine aZ.ret ?_
   simp -implicitDefEqProofs only[↓reduceIte,go_sem,ah,Nat.reduceAdd,Nat.reduceLT,Nat.reduceLeDiff,Nat.reduceEqDiff,aJ,a8,t2,ey,cP]
  by_cases h2:3<a0
  ·have hno:dj [a0,a1,a2,a3]=false:=by unfold dj;simp;omega
   rw[if_pos hno]
   simp -implicitDefEqProofs only[↓reduceIte,go_sem,ah,au,Nat.reduceAdd,Nat.reduceLT,Nat.reduceLeDiff,Nat.reduceEqDiff,reduceCtorEq,show((a0:Int)<1)=False from eq_false (by omega),show((3:Int)<(a0:Int))=True from eq_true (by omega),t2]
   refine aZ.ret ?_
   simp -implicitDefEqProofs only[↓reduceIte,go_sem,ah,Nat.reduceAdd,Nat.reduceLT,Nat.reduceLeDiff,Nat.reduceEqDiff,aJ,a8,t2,ey,cP]
  by_cases h3:4096<a2
  ·have hno:dj [a0,a1,a2,a3]=false:=by unfold dj;simp;omega
   rw[if_pos hno]
   simp -implicitDefEqProofs only[↓reduceIte,go_sem,ah,au,Nat.reduceAdd,Nat.reduceLT,Nat.reduceLeDiff,Nat.reduceEqDiff,reduceCtorEq,show((a0:Int)<1)=False from eq_false (by omega),show((3:Int)<(a0:Int))=False from eq_false (by omega),show((4096:Int)<(a2:Int))=True from eq_true (by omega),t2]
   refine aZ.ret ?_
   simp -implicitDefEqProofs only[↓reduceIte,go_sem,ah,Nat.reduceAdd,Nat.reduceLT,Nat.reduceLeDiff,Nat.reduceEqDiff,aJ,a8,t2,ey,cP]
  by_cases h4:a2<a3
  ·have hno:dj [a0,a1,a2,a3]=false:=by unfold dj;simp;omega
   rw[if_pos hno]
   simp -implicitDefEqProofs only[↓reduceIte,go_sem,ah,au,Nat.reduceAdd,Nat.reduceLT,Nat.reduceLeDiff,Nat.reduceEqDiff,reduceCtorEq,show((a0:Int)<1)=False from eq_false (by omega),show((3:Int)<(a0:Int))=False from eq_false (by omega),show((4096:Int)<(a2:Int))=False from eq_false (by omega),show((a2:Int)<(a3:Int))=True from eq_true (by omega),t2]
   refine aZ.ret ?_
   simp -implicitDefEqProofs only[↓reduceIte,go_sem,ah,Nat.reduceAdd,Nat.reduceLT,Nat.reduceLeDiff,Nat.reduceEqDiff,aJ,a8,t2,ey,cP]
  have hyes:dj [a0,a1,a2,a3]=true:=by unfold dj;simp;omega
  rw[if_neg (by rw[hyes];simp)]
  simp -implicitDefEqProofs only[↓reduceIte,go_sem,ah,au,Nat.reduceAdd,Nat.reduceLT,Nat.reduceLeDiff,Nat.reduceEqDiff,reduceCtorEq,show((a0:Int)<1)=False from eq_false (by omega),show((3:Int)<(a0:Int))=False from eq_false (by omega),show((4096:Int)<(a2:Int))=False from eq_false (by omega),show((a2:Int)<(a3:Int))=False from eq_false (by omega),t0,t2]
  refine aZ.ret ?_
  simp -implicitDefEqProofs only[↓reduceIte,go_sem,ah,Nat.reduceAdd,Nat.reduceLT,Nat.reduceLeDiff,Nat.reduceEqDiff,aJ,a8,t2,cP]
def iS(s:Sg)(b:List Nat):Sg×List Nat×Int:=
 if s.aU.aA=s.aU.rows then(s,b,0)
 else
  if(ej b s.kind).2.2≠0 then(⟨s.kind,s.bf,⟨s.aU.rows,s.aU.aA,(ej b s.kind).1,s.aU.mx⟩,s.aA,s.body⟩,[],(ej b s.kind).2.2)
  else if(ej (ej b s.kind).2.1 s.kind).2.2≠0 then(⟨s.kind,s.bf,⟨s.aU.rows,s.aU.aA,(ej b s.kind).1,(ej (ej b s.kind).2.1 s.kind).1⟩,s.aA,s.body⟩,[],(ej (ej b s.kind).2.1 s.kind).2.2)
  else(⟨s.kind,s.bf,⟨s.aU.rows,s.aU.aA,(ej b s.kind).1,(ej (ej b s.kind).2.1 s.kind).1⟩,s.aA,s.body⟩,(ej (ej b s.kind).2.1 s.kind).2.1,0)
def fI(s:Sg)(l:List Bool):Sg:=⟨s.kind,s.bf,s.aU,l,s.body⟩
def cQ(s:Sg)(b:List Nat):Sg×List Nat×Int:=
 if s.aU.aA=0 then iS s b
 else if b.length<(s.aU.rows+7)/8 then(s,[],3)
 else if bq (b.take ((s.aU.rows+7)/8)) s.aU.rows 1≠0 then(fI s [],[],bq (b.take ((s.aU.rows+7)/8)) s.aU.rows 1)
 else iS (fI s (qX (b.take ((s.aU.rows+7)/8)) s.aU.rows)) (b.drop ((s.aU.rows+7)/8))
abbrev sB(s:Sg):aT:= .box 30 12 0 1 s.cs
theorem Bl(s:Sg)(b:List Nat)(hr:s.aU.rows≤1000000)(hb:∀c∈b,c<256)(hl:b.length≤140737488351232)(G:aa)(id:Nat)(hG:G[id]?=some (sB s)):
  ag Tryz.prog 20 [.ptr id 0 0 0,.d (.list false (aD b))] G (.ok (.bz [.d (.list false (aD (cQ s b).2.1)),iA (cQ s b).2.2])) (G.set id (sB (cQ s b).1)):=by
 obtain⟨sk,sc,⟨zr,zn,zmn,zmx⟩,ns,bd⟩:=s
 simp only at hr
 unfold sB Sg.cs at hG
 simp only at hG
 unfold cQ
 simp only
 by_cases h0:zn=0
 ·rw[if_pos h0]
  subst h0
  obtain⟨G1,hGG⟩:∃G1,G1=G:=⟨_,rfl⟩
  have hG1:G1[id]?=some (.box 30 12 0 1 [iA sk,iA sc,iA zr,iA (0:Nat),iA zmn.kind,iA zmn.i,sA zmn.s,iA zmx.kind,iA zmx.i,sA zmx.s,.d (.list false (bF ns)),.d (.list false (aD bd))]):=by rw[hGG];exact hG
  rw[←hGG]
  clear hG hGG
  have hB:=hb
  have s1:∀o:aT,(G1.set id o)[id]?=some o:=fun o=>by rw[List.getElem?_set_self (az hG1)]
  have s2:∀o o':aT,(G1.set id o).set id o'=G1.set id o':=fun o o'=>List.set_set ..
  have v1:=fun H=>gn b sk (by omega) hB H
  unfold iS
  simp only
  by_cases h1:0=zr
  ·have h1t:((0:Int)=(zr:Int))=True:=eq_true (by omega)
   have hsame:G1.set id (.box 30 12 0 1 [iA sk,iA sc,iA zr,iA (0:Nat),iA zmn.kind,iA zmn.i,sA zmn.s,iA zmx.kind,iA zmx.i,sA zmx.s,.d (.list false (bF ns)),.d (.list false (aD bd))])=G1:=by
    obtain⟨hl,hx⟩:=List.getElem?_eq_some_iff.1 hG1
    rw[←hx];exact List.set_getElem_self hl
   rw[if_pos h1]
   unfold sB Sg.cs
   simp only
   rw[hsame]
   refine ag.aj (hint:=(fun _=>false)) Tryz.func20 (by kernel_rfl) rfl [4,5] (by kernel_rfl) (by decide) (by simp[Tryz.ntmps20]) ?_
   rw[Tryz.ntmps20]
   simp -implicitDefEqProofs only[↓reduceIte,go_sem,ah,Nat.reduceAdd,Nat.reduceLT,Nat.reduceLeDiff,Int.reduceLT,reduceCtorEq,hG1]
   refine aO K.mixed (by kernel_rfl) ?_
   simp -implicitDefEqProofs only[↓reduceIte,go_sem,ah,Nat.reduceAdd,Nat.reduceLT,Nat.reduceLeDiff,Nat.reduceEqDiff,reduceCtorEq,hG1,h1t]
   exact⟨_,ay.refl _ _,by simp -implicitDefEqProofs only[↓reduceIte,go_sem,Nat.reduceLT,Nat.reduceEqDiff]⟩
  have h1f:((0:Int)=(zr:Int))=False:=eq_false (by omega)
  rw[if_neg h1]
  obtain⟨j1,hj1⟩:=eA b sk
  generalize ej b sk=x1 at*
  obtain⟨mn,r1,e1⟩:=x1
  simp only at v1 hj1
  subst hj1
  by_cases he1:e1≠0
  ·rw[if_pos he1]
   unfold sB Sg.cs
   simp only
   refine ag.bE (cs:=[.d (.v (.slice none 0 0)),iA e1]) ?_ (.cons .nil (.cons (.refl _) .nil))
   refine ag.aj (hint:=(fun _=>false)) Tryz.func20 (by kernel_rfl) rfl [4,5] (by kernel_rfl) (by decide) (by simp[Tryz.ntmps20]) ?_
   rw[Tryz.ntmps20]
   simp -implicitDefEqProofs only[↓reduceIte,go_sem,ah,Nat.reduceAdd,Nat.reduceLT,Nat.reduceLeDiff,Int.reduceLT,reduceCtorEq,hG1]
   refine aO K.mixed (by kernel_rfl) ?_
   simp -implicitDefEqProofs only[↓reduceIte,go_sem,ah,Nat.reduceAdd,Nat.reduceLT,Nat.reduceLeDiff,Nat.reduceEqDiff,reduceCtorEq,hG1,h1f]
   refine ae.ok (v1 _) ?_
   simp -implicitDefEqProofs only[↓reduceIte,go_sem,au,Nat.reduceAdd,Nat.reduceLT,Nat.reduceLeDiff,Nat.reduceEqDiff,hG1,he1]
   exact⟨_,ay.refl _ _,by simp -implicitDefEqProofs only[↓reduceIte,go_sem,Nat.reduceLT,Nat.reduceEqDiff]⟩
  rw[if_neg he1]
  obtain rfl:e1=0:=by simpa using he1
  have v2:=fun H=>gn (List.drop j1 b) sk (by rw[List.length_drop];omega) (fun x hx=>hB x (List.mem_of_mem_drop hx)) H
  generalize ej (List.drop j1 b) sk=x2 at*
  obtain⟨mx,r2,e2⟩:=x2
  simp only at v2
  by_cases he2:e2≠0
  ·rw[if_pos he2]
   unfold sB Sg.cs
   simp only
   refine ag.bE (cs:=[.d (.v (.slice none 0 0)),iA e2]) ?_ (.cons .nil (.cons (.refl _) .nil))
   refine ag.aj (hint:=(fun _=>false)) Tryz.func20 (by kernel_rfl) rfl [4,5] (by kernel_rfl) (by decide) (by simp[Tryz.ntmps20]) ?_
   rw[Tryz.ntmps20]
   simp -implicitDefEqProofs only[↓reduceIte,go_sem,ah,Nat.reduceAdd,Nat.reduceLT,Nat.reduceLeDiff,Int.reduceLT,reduceCtorEq,hG1]
   refine aO K.mixed (by kernel_rfl) ?_
   simp -implicitDefEqProofs only[↓reduceIte,go_sem,ah,Nat.reduceAdd,Nat.reduceLT,Nat.reduceLeDiff,Nat.reduceEqDiff,reduceCtorEq,hG1,h1f]
   refine ae.ok (v1 _) ?_
   simp -implicitDefEqProofs only[↓reduceIte,go_sem,ah,au,Nat.reduceAdd,Nat.reduceLT,Nat.reduceLeDiff,Nat.reduceEqDiff,reduceCtorEq,hG1,s1]
   refine ae.ok (v2 _) ?_
   simp -implicitDefEqProofs only[↓reduceIte,go_sem,au,Nat.reduceAdd,Nat.reduceLT,Nat.reduceLeDiff,Nat.reduceEqDiff,s1,s2,he2]
   exact⟨_,ay.refl _ _,by simp -implicitDefEqProofs only[↓reduceIte,go_sem,Nat.reduceLT,Nat.reduceEqDiff]⟩
  rw[if_neg he2]
  obtain rfl:e2=0:=by simpa using he2
  unfold sB Sg.cs
  simp only
  refine ag.aj (hint:=(fun _=>false)) Tryz.func20 (by kernel_rfl) rfl [4,5] (by kernel_rfl) (by decide) (by simp[Tryz.ntmps20]) ?_
  rw[Tryz.ntmps20]
  simp -implicitDefEqProofs only[↓reduceIte,go_sem,ah,Nat.reduceAdd,Nat.reduceLT,Nat.reduceLeDiff,Int.reduceLT,reduceCtorEq,hG1]
  refine aO K.mixed (by kernel_rfl) ?_
  simp -implicitDefEqProofs only[↓reduceIte,go_sem,ah,Nat.reduceAdd,Nat.reduceLT,Nat.reduceLeDiff,Nat.reduceEqDiff,reduceCtorEq,hG1,h1f]
  refine ae.ok (v1 _) ?_
  simp -implicitDefEqProofs only[↓reduceIte,go_sem,ah,au,Nat.reduceAdd,Nat.reduceLT,Nat.reduceLeDiff,Nat.reduceEqDiff,reduceCtorEq,hG1,s1]
  refine ae.ok (v2 _) ?_
  simp -implicitDefEqProofs only[↓reduceIte,go_sem,au,Nat.reduceAdd,Nat.reduceLT,Nat.reduceLeDiff,Nat.reduceEqDiff,s1,s2]
  exact⟨_,ay.refl _ _,by simp -implicitDefEqProofs only[↓reduceIte,go_sem,Nat.reduceLT,Nat.reduceEqDiff]⟩
 rw[if_neg h0]
 have h0t:((0:Int)<(zn:Int))=True:=eq_true (by omega)
 have w1:IntKind.i64.wrap ((zr:Int)+8)=(zr:Int)+8:=wrap64_in _ (by omega) (by omega)
 have w2:IntKind.i64.wrap ((zr:Int)+8-1)=((zr+7:Nat):Int):=by rw[wrap64_in _ (by omega) (by omega)];omega
 have w3:IntKind.i64.wrap (((zr+7:Nat):Int).tdiv 8)=(((zr+7)/8:Nat):Int):=by
  rw[show((zr+7:Nat):Int).tdiv 8=(((zr+7)/8:Nat):Int)from rfl]
  exact wrap64_in _ (by omega) (by omega)
 obtain⟨y,hy⟩:∃y,y=zr+7:=⟨_,rfl⟩
 obtain⟨n,hn⟩:∃n,n=(zr+7)/8:=⟨_,rfl⟩
 rw[←hn,←hy]at w3
 rw[←hy]at w2
 rw[←hn]
 by_cases h1:b.length<n
 ·rw[if_pos h1]
  unfold sB Sg.cs
  simp only
  have hsame:G.set id (.box 30 12 0 1 [iA sk,iA sc,iA zr,iA zn,iA zmn.kind,iA zmn.i,sA zmn.s,iA zmx.kind,iA zmx.i,sA zmx.s,.d (.list false (bF ns)),.d (.list false (aD bd))])=G:=by
   obtain⟨hl,hx⟩:=List.getElem?_eq_some_iff.1 hG
   rw[←hx];exact List.set_getElem_self hl
  rw[hsame]
  refine ag.bE (cs:=[.d (.v (.slice none 0 0)),iA 3]) ?_ (.cons .nil (.cons (.refl _) .nil))
  refine ag.aj (hint:=(fun _=>false)) Tryz.func20 (by kernel_rfl) rfl [4,5] (by kernel_rfl) (by decide) (by simp[Tryz.ntmps20]) ?_
  rw[Tryz.ntmps20]
  simp -implicitDefEqProofs only[↓reduceIte,go_sem,ah,Nat.reduceAdd,Nat.reduceLT,Nat.reduceLeDiff,Nat.reduceEqDiff,Int.reduceEq,reduceCtorEq,hG,h0t,w1,w2,w3,ai,show((b.length:Int)<(n:Int))=True from eq_true (by omega)]
  exact⟨_,ay.refl _ _,by simp -implicitDefEqProofs only[↓reduceIte,go_sem,Nat.reduceLT,Nat.reduceEqDiff]⟩
 rw[if_neg h1]
 have h1f:((b.length:Int)<(n:Int))=False:=eq_false (by omega)
 have htk:List.take n (aD b)=aD (b.take n):=by unfold aD;rw[List.map_take]
 have hdk:List.drop n (aD b)=aD (b.drop n):=by unfold aD;rw[List.map_drop]
 have hof:=fun H=>HH (b.take n) zr (by rw[List.length_take];omega) (fun x hx=>hb x (List.mem_of_mem_take hx)) (by omega) H
 generalize bq (b.take n) zr 1=e at*
 generalize qX (b.take n) zr=L at*
 by_cases he:e≠0
 ·rw[if_pos he]
  rw[if_neg he]at hof
  unfold fI sB Sg.cs
  simp only
  refine ag.bE (cs:=[.d (.v (.slice none 0 0)),iA e]) ?_ (.cons .nil (.cons (.refl _) .nil))
  refine ag.aj (hint:=(fun _=>false)) Tryz.func20 (by kernel_rfl) rfl [4,5] (by kernel_rfl) (by decide) (by simp[Tryz.ntmps20]) ?_
  rw[Tryz.ntmps20]
  simp -implicitDefEqProofs only[↓reduceIte,go_sem,ah,Nat.reduceAdd,Nat.reduceLT,Nat.reduceLeDiff,Nat.reduceEqDiff,Int.reduceEq,reduceCtorEq,hG,h0t,w1,w2,w3,ai,h1f]
  refine dK [some false,some false,some false,some false,some false,some false,some false,some false,some false,some true,some false,some false,some false,some true,some true,some true] 9 [] K.mixed (by kernel_rfl) (by kernel_rfl) (by kernel_rfl) (fun _ _ h=>by simp at h) ?_
  simp -implicitDefEqProofs only[↓reduceIte,go_sem,ah,Nat.reduceAdd,Nat.reduceLT,Nat.reduceLeDiff,Nat.reduceEqDiff,Int.reduceLE,Int.reduceToNat,reduceCtorEq,hG,aL,ai,htk]
  refine⟨by omega,?_⟩
  refine ae.ok (hof _) ?_
  simp -implicitDefEqProofs only[↓reduceIte,go_sem,au,Nat.reduceAdd,Nat.reduceLT,Nat.reduceLeDiff,Nat.reduceEqDiff,hG,Ext.nil,he]
  exact⟨_,ay.refl _ _,by simp -implicitDefEqProofs only[↓reduceIte,go_sem,Nat.reduceLT,Nat.reduceEqDiff]⟩
 rw[if_neg he]
 obtain rfl:e=0:=by simpa using he
 rw[if_pos rfl]at hof
 unfold fI
 have z1:∀o:aT,(G.set id o)[id]?=some o:=fun o=>by rw[List.getElem?_set_self (az hG)]
 obtain⟨G1,hGG⟩:∃G1,G.set id (.box 30 12 0 1 [iA sk,iA sc,iA zr,iA zn,iA zmn.kind,iA zmn.i,sA zmn.s,iA zmx.kind,iA zmx.i,sA zmx.s,.d (.list false (bF L)),.d (.list false (aD bd))])=G1:=⟨_,rfl⟩
 have hG1:G1[id]?=some (.box 30 12 0 1 [iA sk,iA sc,iA zr,iA zn,iA zmn.kind,iA zmn.i,sA zmn.s,iA zmx.kind,iA zmx.i,sA zmx.s,.d (.list false (bF L)),.d (.list false (aD bd))]):=by rw[←hGG];exact z1 _
 have hset:∀o:aT,G.set id o=G1.set id o:=fun o=>by rw[←hGG,List.set_set]
 rw[hset]
 have hbn:(n:Int)≤(b.length:Int):=by omega
 have htb:List.take b.length (aD b)=aD b:=List.take_of_length_le (Nat.le_of_eq (ai b))
 have hB:∀c∈b.drop n,c<256:=fun c hc=>hb c (List.mem_of_mem_drop hc)
 have hbdl:(b.drop n).length≤b.length:=by rw[List.length_drop];omega
 generalize hbd:b.drop n=b2 at*
 have s1:∀o:aT,(G1.set id o)[id]?=some o:=fun o=>by rw[List.getElem?_set_self (az hG1)]
 have s2:∀o o':aT,(G1.set id o).set id o'=G1.set id o':=fun o o'=>List.set_set ..
 have v1:=fun H=>gn b2 sk (by omega) hB H
 unfold iS
 simp only
 by_cases hz1:zn=zr
 ·have hzt:((zn:Int)=(zr:Int))=True:=eq_true (by omega)
  have hsame:G1.set id (.box 30 12 0 1 [iA sk,iA sc,iA zr,iA zn,iA zmn.kind,iA zmn.i,sA zmn.s,iA zmx.kind,iA zmx.i,sA zmx.s,.d (.list false (bF L)),.d (.list false (aD bd))])=G1:=by
   obtain⟨hl,hx⟩:=List.getElem?_eq_some_iff.1 hG1
   rw[←hx];exact List.set_getElem_self hl
  rw[if_pos hz1]
  unfold sB Sg.cs
  simp only
  rw[hsame]
  refine ag.aj (hint:=(fun _=>false)) Tryz.func20 (by kernel_rfl) rfl [4,5] (by kernel_rfl) (by decide) (by simp[Tryz.ntmps20]) ?_
  rw[Tryz.ntmps20]
  simp -implicitDefEqProofs only[↓reduceIte,go_sem,ah,Nat.reduceAdd,Nat.reduceLT,Nat.reduceLeDiff,Nat.reduceEqDiff,Int.reduceEq,reduceCtorEq,hG,h0t,w1,w2,w3,ai,h1f]
  refine dK [some false,some false,some false,some false,some false,some false,some false,some false,some false,some true,some false,some false,some false,some true,some true,some true] 9 [] K.mixed (by kernel_rfl) (by kernel_rfl) (by kernel_rfl) (fun _ _ h=>by simp at h) ?_
  simp -implicitDefEqProofs only[↓reduceIte,go_sem,ah,Nat.reduceAdd,Nat.reduceLT,Nat.reduceLeDiff,Nat.reduceEqDiff,Int.reduceLE,Int.reduceToNat,reduceCtorEq,hG,aL,ai,htk]
  refine⟨by omega,?_⟩
  refine ae.ok (hof _) ?_
  simp -implicitDefEqProofs only[↓reduceIte,go_sem,au,Nat.reduceAdd,Nat.reduceLT,Nat.reduceLeDiff,Nat.reduceEqDiff,hG,Ext.nil,hbn,htb,hdk,ai,aL]
  rw[hGG]
  simp -implicitDefEqProofs only[go_sem]
  refine aO K.mixed (by kernel_rfl) ?_
  simp -implicitDefEqProofs only[↓reduceIte,go_sem,ah,Nat.reduceAdd,Nat.reduceLT,Nat.reduceLeDiff,Nat.reduceEqDiff,reduceCtorEq,hG1,hzt]
  exact⟨_,ay.refl _ _,by simp -implicitDefEqProofs only[↓reduceIte,go_sem,Nat.reduceLT,Nat.reduceEqDiff]⟩
 have hzf:((zn:Int)=(zr:Int))=False:=eq_false (by omega)
 rw[if_neg hz1]
 obtain⟨j1,hj1⟩:=eA b2 sk
 generalize ej b2 sk=x1 at*
 obtain⟨mn,r1,e1⟩:=x1
 simp only at v1 hj1
 subst hj1
 by_cases he1:e1≠0
 ·rw[if_pos he1]
  unfold sB Sg.cs
  simp only
  refine ag.bE (cs:=[.d (.v (.slice none 0 0)),iA e1]) ?_ (.cons .nil (.cons (.refl _) .nil))
  refine ag.aj (hint:=(fun _=>false)) Tryz.func20 (by kernel_rfl) rfl [4,5] (by kernel_rfl) (by decide) (by simp[Tryz.ntmps20]) ?_
  rw[Tryz.ntmps20]
  simp -implicitDefEqProofs only[↓reduceIte,go_sem,ah,Nat.reduceAdd,Nat.reduceLT,Nat.reduceLeDiff,Nat.reduceEqDiff,Int.reduceEq,reduceCtorEq,hG,h0t,w1,w2,w3,ai,h1f]
  refine dK [some false,some false,some false,some false,some false,some false,some false,some false,some false,some true,some false,some false,some false,some true,some true,some true] 9 [] K.mixed (by kernel_rfl) (by kernel_rfl) (by kernel_rfl) (fun _ _ h=>by simp at h) ?_
  simp -implicitDefEqProofs only[↓reduceIte,go_sem,ah,Nat.reduceAdd,Nat.reduceLT,Nat.reduceLeDiff,Nat.reduceEqDiff,Int.reduceLE,Int.reduceToNat,reduceCtorEq,hG,aL,ai,htk]
  refine⟨by omega,?_⟩
  refine ae.ok (hof _) ?_
  simp -implicitDefEqProofs only[↓reduceIte,go_sem,au,Nat.reduceAdd,Nat.reduceLT,Nat.reduceLeDiff,Nat.reduceEqDiff,hG,Ext.nil,hbn,htb,hdk,ai,aL]
  rw[hGG]
  simp -implicitDefEqProofs only[go_sem]
  refine aO K.mixed (by kernel_rfl) ?_
  simp -implicitDefEqProofs only[↓reduceIte,go_sem,ah,Nat.reduceAdd,Nat.reduceLT,Nat.reduceLeDiff,Nat.reduceEqDiff,reduceCtorEq,hG1,hzf]
  refine ae.ok (v1 _) ?_
  simp -implicitDefEqProofs only[↓reduceIte,go_sem,au,Nat.reduceAdd,Nat.reduceLT,Nat.reduceLeDiff,Nat.reduceEqDiff,hG1,he1]
  exact⟨_,ay.refl _ _,by simp -implicitDefEqProofs only[↓reduceIte,go_sem,Nat.reduceLT,Nat.reduceEqDiff]⟩
 rw[if_neg he1]
 obtain rfl:e1=0:=by simpa using he1
 have v2:=fun H=>gn (List.drop j1 b2) sk (by rw[List.length_drop];omega) (fun x hx=>hB x (List.mem_of_mem_drop hx)) H
 generalize ej (List.drop j1 b2) sk=x2 at*
 obtain⟨mx,r2,e2⟩:=x2
 simp only at v2
 by_cases he2:e2≠0
 ·rw[if_pos he2]
  unfold sB Sg.cs
  simp only
  refine ag.bE (cs:=[.d (.v (.slice none 0 0)),iA e2]) ?_ (.cons .nil (.cons (.refl _) .nil))
  refine ag.aj (hint:=(fun _=>false)) Tryz.func20 (by kernel_rfl) rfl [4,5] (by kernel_rfl) (by decide) (by simp[Tryz.ntmps20]) ?_
  rw[Tryz.ntmps20]
  simp -implicitDefEqProofs only[↓reduceIte,go_sem,ah,Nat.reduceAdd,Nat.reduceLT,Nat.reduceLeDiff,Nat.reduceEqDiff,Int.reduceEq,reduceCtorEq,hG,h0t,w1,w2,w3,ai,h1f]
  refine dK [some false,some false,some false,some false,some false,some false,some false,some false,some false,some true,some false,some false,some false,some true,some true,some true] 9 [] K.mixed (by kernel_rfl) (by kernel_rfl) (by kernel_rfl) (fun _ _ h=>by simp at h) ?_
  simp -implicitDefEqProofs only[↓reduceIte,go_sem,ah,Nat.reduceAdd,Nat.reduceLT,Nat.reduceLeDiff,Nat.reduceEqDiff,Int.reduceLE,Int.reduceToNat,reduceCtorEq,hG,aL,ai,htk]
  refine⟨by omega,?_⟩
  refine ae.ok (hof _) ?_
  simp -implicitDefEqProofs only[↓reduceIte,go_sem,au,Nat.reduceAdd,Nat.reduceLT,Nat.reduceLeDiff,Nat.reduceEqDiff,hG,Ext.nil,hbn,htb,hdk,ai,aL]
  rw[hGG]
  simp -implicitDefEqProofs only[go_sem]
  refine aO K.mixed (by kernel_rfl) ?_
  simp -implicitDefEqProofs only[↓reduceIte,go_sem,ah,Nat.reduceAdd,Nat.reduceLT,Nat.reduceLeDiff,Nat.reduceEqDiff,reduceCtorEq,hG1,hzf]
  refine ae.ok (v1 _) ?_
  simp -implicitDefEqProofs only[↓reduceIte,go_sem,ah,au,Nat.reduceAdd,Nat.reduceLT,Nat.reduceLeDiff,Nat.reduceEqDiff,reduceCtorEq,hG1,s1]
  refine ae.ok (v2 _) ?_
  simp -implicitDefEqProofs only[↓reduceIte,go_sem,au,Nat.reduceAdd,Nat.reduceLT,Nat.reduceLeDiff,Nat.reduceEqDiff,s1,s2,he2]
  exact⟨_,ay.refl _ _,by simp -implicitDefEqProofs only[↓reduceIte,go_sem,Nat.reduceLT,Nat.reduceEqDiff]⟩
 rw[if_neg he2]
 obtain rfl:e2=0:=by simpa using he2
 unfold sB Sg.cs
 simp only
 refine ag.aj (hint:=(fun _=>false)) Tryz.func20 (by kernel_rfl) rfl [4,5] (by kernel_rfl) (by decide) (by simp[Tryz.ntmps20]) ?_
 rw[Tryz.ntmps20]
 simp -implicitDefEqProofs only[↓reduceIte,go_sem,ah,Nat.reduceAdd,Nat.reduceLT,Nat.reduceLeDiff,Nat.reduceEqDiff,Int.reduceEq,reduceCtorEq,hG,h0t,w1,w2,w3,ai,h1f]
 refine dK [some false,some false,some false,some false,some false,some false,some false,some false,some false,some true,some false,some false,some false,some true,some true,some true] 9 [] K.mixed (by kernel_rfl) (by kernel_rfl) (by kernel_rfl) (fun _ _ h=>by simp at h) ?_
 simp -implicitDefEqProofs only[↓reduceIte,go_sem,ah,Nat.reduceAdd,Nat.reduceLT,Nat.reduceLeDiff,Nat.reduceEqDiff,Int.reduceLE,Int.reduceToNat,reduceCtorEq,hG,aL,ai,htk]
 refine⟨by omega,?_⟩
 refine ae.ok (hof _) ?_
 simp -implicitDefEqProofs only[↓reduceIte,go_sem,au,Nat.reduceAdd,Nat.reduceLT,Nat.reduceLeDiff,Nat.reduceEqDiff,hG,Ext.nil,hbn,htb,hdk,ai,aL]
 rw[hGG]
 simp -implicitDefEqProofs only[go_sem]
 refine aO K.mixed (by kernel_rfl) ?_
 simp -implicitDefEqProofs only[↓reduceIte,go_sem,ah,Nat.reduceAdd,Nat.reduceLT,Nat.reduceLeDiff,Nat.reduceEqDiff,reduceCtorEq,hG1,hzf]
 refine ae.ok (v1 _) ?_
 simp -implicitDefEqProofs only[↓reduceIte,go_sem,ah,au,Nat.reduceAdd,Nat.reduceLT,Nat.reduceLeDiff,Nat.reduceEqDiff,reduceCtorEq,hG1,s1]
 refine ae.ok (v2 _) ?_
 simp -implicitDefEqProofs only[↓reduceIte,go_sem,au,Nat.reduceAdd,Nat.reduceLT,Nat.reduceLeDiff,Nat.reduceEqDiff,s1,s2]
 exact⟨_,ay.refl _ _,by simp -implicitDefEqProofs only[↓reduceIte,go_sem,Nat.reduceLT,Nat.reduceEqDiff]⟩
theorem oK{P:Program}{w:World}{d c i:Nat}{e:TypeId}{xs ys:Array Value}{is:List Nat}{a b:Value}{q r:Bool}(ha:(part e xs (i* c)).run P w= .ok a w)(hb:(part e ys (i* c)).run P w= .ok b w)(he:(Op.equalIn d e a b).run P w= .ok q w)
  (hr:(Op.eqItems d e c xs ys is).run P w= .ok r w):(Op.eqItems d e c xs ys (i::is)).run P w= .ok (q&&r) w:=by
 simp only[Op.eqItems,Sem.run_bind,ha,hb,he,Result.andThen_ok]
 cases q
 ·simp
 ·simpa using hr
abbrev a4(a b c d:Int):Value:= .agg #[.int .u8 a,.int .u8 b,.int .u8 c,.int .u8 d]
theorem Hi(w:World)(a b c d a' b' c' d':Int):(Op.eqItems 9999 5 1 #[.int .u8 a,.int .u8 b,.int .u8 c,.int .u8 d] #[.int .u8 a',.int .u8 b',.int .u8 c',.int .u8 d'] [0,1,2,3]).run Tryz.prog w= .ok ((a==a')&&((b==b')&&((c==c')&&((d==d')&&true)))) w:=by
 have st:=fun x y=>run_equalIn_int w 9998 5 .u8 .u8 x y (UK.get K.Oc)
 exact oK (eP K.vO rfl) (eP K.vO rfl) (st a a') (oK (eP K.vO rfl) (eP K.vO rfl) (st b b')
  (oK (eP K.vO rfl) (eP K.vO rfl) (st c c') (oK (eP K.vO rfl) (eP K.vO rfl) (st d d') rfl)))
theorem Gc(w:World)(a b c d a' b' c' d':Int):(Op.equalIn 10000 83 (a4 a b c d) (a4 a' b' c' d')).run Tryz.prog w= .ok ((a==a')&&((b==b')&&((c==c')&&((d==d')&&true)))) w:=by
 obtain⟨i,hi⟩:=info_of_underlying (P:=Tryz.prog) (UK.get K.Oc)
 rw[run_equalIn_array w 9999 _ _ (t:=83) (e:=5) (n:=4) (by kernel_rfl) hi,show(Tryz.prog).cellsOf 5=1 from by kernel_rfl]
 exact Hi w a b c d a' b' c' d'
theorem I6(a b c d a' b' c' d':Int):cy Tryz.prog .neq 83 (a4 a b c d) (a4 a' b' c' d') (.bool !((a==a')&&((b==b')&&((c==c')&&((d==d')&&true))))):=by
 refine fun x y w=>?_
 rw[Sem.run_bind,run_eqGuard_agg _ _ _ _ _ _ _ (by kernel_rfl)]
 simp only[Result.andThen_ok,run_neq_struct]
 rw[Gc]
 rfl
theorem zc(a b c d a' b' c' d':Nat)(K:Value→Prop):dE Tryz.prog .neq 83 (.agg #[.int .u8 a,.int .u8 b,.int .u8 c,.int .u8 d]) (.agg #[.int .u8 a',.int .u8 b',.int .u8 c',.int .u8 d']) K=K (.bool (decide ([a,b,c,d]≠[a',b',c',d']))):=by
 have e:(!(((a:Int)==a')&&(((b:Int)==b')&&(((c:Int)==c')&&(((d:Int)==d')&&true)))))=decide ([a,b,c,d]≠[a',b',c',d']):=by
  rw[Bool.eq_iff_iff]
  simp[Int.natCast_inj]
 rw[←e]
 exact nV (I6 a b c d a' b' c' d') K
def r5(b:List Nat):List Nat:=(b.drop (aQ b).2.1).take (aQ b).1
def uB(b:List Nat):List Nat:=b.drop ((aQ b).2.1+(aQ b).1)
def cu(b:List Nat)(most:Nat):List Nat×List Nat×Int:=
 if(aQ b).2.2≠0 then([],[],(aQ b).2.2)
 else if most<(aQ b).1 then([],[],2)
 else if b.length-(aQ b).2.1<(aQ b).1+4 then([],[],3)
 else if dL (iK (r5 b))≠(uB b).take 4 then([],[],5)
 else(r5 b,(uB b).drop 4,0)
theorem EE(b:List Nat)(nn:Bool)(most:Nat)(hm:most≤1048576)(hb:∀c∈b,c<256)(hl:b.length≤140737488351232)(H:aa):
  ag Tryz.prog 18 [.d (.list nn (aD b)),iA most] H (.ok (.bz [.d (.list false (aD (cu b most).1)),.d (.list false (aD (cu b most).2.1)),iA (cu b most).2.2])) H:=by
 have hg:=fun H=>kg b nn (by omega) hb H
 have hle:=eO b
 unfold cu r5 uB
 generalize aQ b=g at*
 obtain⟨n,k,e⟩:=g
 simp only at hg hle⊢
 have wm:IntKind.u64.wrap (most:Int)=(most:Int):=aK _ (by omega)
 have mneg:((most:Int)<0)=False:=eq_false (by omega)
 by_cases he:e≠0
 ·rw[if_pos he]
  refine ag.bE (cs:=[.d (.v (.slice none 0 0)),.d (.v (.slice none 0 0)),iA e]) ?_ (.cons .nil (.cons .nil (.cons (.refl _) .nil)))
  refine ag.aj (hint:=(fun _=>false)) Tryz.func18 (by kernel_rfl) rfl [4,5,6] (by kernel_rfl) (by decide) (by simp[Tryz.ntmps18]) ?_
  rw[Tryz.ntmps18]
  simp -implicitDefEqProofs only[↓reduceIte,go_sem,Nat.reduceLT,reduceCtorEq]
  refine ae.ok (hg _) ?_
  simp -implicitDefEqProofs only[↓reduceIte,go_sem,Nat.reduceLT,Nat.reduceEqDiff,he]
  refine aw.aI ?_
  simp -implicitDefEqProofs only[↓reduceIte,go_sem,Nat.reduceLT,Nat.reduceEqDiff]
 rw[if_neg he]
 obtain rfl:e=0:=by simpa using he
 by_cases h1:most<n
 ·rw[if_pos h1]
  refine ag.bE (cs:=[.d (.v (.slice none 0 0)),.d (.v (.slice none 0 0)),iA 2]) ?_ (.cons .nil (.cons .nil (.cons (.refl _) .nil)))
  refine ag.aj (hint:=(fun _=>false)) Tryz.func18 (by kernel_rfl) rfl [4,5,6] (by kernel_rfl) (by decide) (by simp[Tryz.ntmps18]) ?_
  rw[Tryz.ntmps18]
  simp -implicitDefEqProofs only[↓reduceIte,go_sem,Nat.reduceLT,reduceCtorEq]
  refine ae.ok (hg _) ?_
  simp -implicitDefEqProofs only[↓reduceIte,go_sem,Nat.reduceLT,Nat.reduceEqDiff,reduceCtorEq,mneg,wm,show((most:Int)<(n:Int))=True from eq_true (by omega)]
  refine aw.aI ?_
  simp -implicitDefEqProofs only[↓reduceIte,go_sem,Nat.reduceLT,Nat.reduceEqDiff]
 rw[if_neg h1]
 have h1f:((most:Int)<(n:Int))=False:=eq_false (by omega)
 have w1:IntKind.i64.wrap ((b.length:Int)-(k:Int))=((b.length-k:Nat):Int):=by rw[wrap64_in _ (by omega) (by omega)];omega
 have w2:IntKind.u64.wrap ((b.length-k:Nat):Int)=((b.length-k:Nat):Int):=aK _ (by omega)
 have w3:IntKind.u64.wrap ((n:Int)+4)=((n+4:Nat):Int):=by
  have:=aK (n+4) (by omega)
  rw[←this];rfl
 by_cases h2:b.length-k<n+4
 ·rw[if_pos h2]
  have h2t:(((b.length-k:Nat):Int)<(n:Int)+4)=True:=eq_true (by omega)
  refine ag.bE (cs:=[.d (.v (.slice none 0 0)),.d (.v (.slice none 0 0)),iA 3]) ?_ (.cons .nil (.cons .nil (.cons (.refl _) .nil)))
  refine ag.aj (hint:=(fun _=>false)) Tryz.func18 (by kernel_rfl) rfl [4,5,6] (by kernel_rfl) (by decide) (by simp[Tryz.ntmps18]) ?_
  rw[Tryz.ntmps18]
  simp -implicitDefEqProofs only[↓reduceIte,go_sem,Nat.reduceLT,reduceCtorEq]
  refine ae.ok (hg _) ?_
  simp -implicitDefEqProofs only[↓reduceIte,go_sem,Nat.reduceLT,Nat.reduceEqDiff,reduceCtorEq,mneg,wm,h1f,ai,w1,w2,w3,h2t]
  refine aw.aI ?_
  simp -implicitDefEqProofs only[↓reduceIte,go_sem,Nat.reduceLT,Nat.reduceEqDiff]
 rw[if_neg h2]
 have h2f:(((b.length-k:Nat):Int)<(n:Int)+4)=False:=eq_false (by omega)
 have w4:IntKind.i64.wrap (n:Int)=(n:Int):=wrap64_in _ (by omega) (by omega)
 have w5:IntKind.i64.wrap ((k:Int)+(n:Int))=((k+n:Nat):Int):=by rw[wrap64_in _ (by omega) (by omega)];omega
 obtain⟨q,hq⟩:∃q,q=k+n:=⟨_,rfl⟩
 rw[←hq]at w5
 rw[←hq]
 generalize hB:(b.drop k).take n=B at*
 generalize hR:b.drop q=R at*
 have hBl:B.length=n:=by rw[←hB,List.length_take,List.length_drop];omega
 have hRl:4≤R.length:=by rw[←hR,List.length_drop];omega
 have hRl2:R.length≤140737488351232:=by rw[←hR,List.length_drop];omega
 have hbB:∀c∈B,c<256:=fun c hc=>hb c (by rw[←hB]at hc;exact List.mem_of_mem_drop (List.mem_of_mem_take hc))
 have hcopy:cB (List.replicate n [D.v (.int .u8 0)]) 0 ((aD (b.drop k)).take (min (b.length-k) n))=aD B:=by
  have:((aD (b.drop k)).take (min (b.length-k) n))=aD B:=by
   rw[←hB]
   unfold aD
   rw[←List.map_take,show min (b.length-k) n=n by omega]
  rw[this]
  unfold cB
  rw[List.take_zero,List.nil_append,List.drop_eq_nil_of_le (by rw[List.length_replicate,ai];omega),List.append_nil]
 have hsum:=fun H=>xS B false hbB (by omega) H
 have hcl:=xl B
 have hfo:=fun H=>uw (iK B) hcl H
 unfold iK at*
 obtain⟨y0,y1,y2,y3,hy⟩:∃y0 y1 y2 y3,dL (4294967295-lJ B)=[y0,y1,y2,y3]:=⟨_,_,_,_,rfl⟩
 rw[hy]at hfo
 simp only[List.map_cons,List.map_nil,b8]at hfo
 rw[hy]
 obtain⟨x0,x1,x2,x3,R',hR4⟩:∃x0 x1 x2 x3 R',R=x0::x1::x2::x3::R':=by
  match R,hRl with
  |x0::x1::x2::x3::R',_=>exact⟨_,_,_,_,_,rfl⟩
  |[],h=>simp at h
  |[_],h=>simp at h
  |[_,_],h=>simp at h
  |[_,_,_],h=>simp at h
 have ht4:List.take 4 (aD R)=[D.v (.int .u8 (x0:Int)),.v (.int .u8 (x1:Int)),.v (.int .u8 (x2:Int)),.v (.int .u8 (x3:Int))].map fun d=>[d]:=by rw[hR4];rfl
 have hr4:R.take 4=[x0,x1,x2,x3]:=by rw[hR4];rfl
 have hd4:List.drop 4 (aD R)=aD (R.drop 4):=by unfold aD;rw[List.map_drop]
 rw[hr4]
 have hdk:List.drop k (aD b)=aD (b.drop k):=by unfold aD;rw[List.map_drop]
 have hdkn:List.drop q (aD b)=aD R:=by rw[←hR];unfold aD;rw[List.map_drop]
 have hdkl:(aD (b.drop k)).length=b.length-k:=by rw[ai,List.length_drop]
 suffices h:ag Tryz.prog 18 [.d (.list nn (aD b)),iA most] H (.ok (if[y0,y1,y2,y3]≠[x0,x1,x2,x3]then .bz [.d (.v (.slice none 0 0)),.d (.v (.slice none 0 0)),iA 5]else .bz [.d (.list false (aD B)),.d (.list false (aD (R.drop 4))),iA 0])) H by
  by_cases h3:[y0,y1,y2,y3]≠[x0,x1,x2,x3]
  ·rw[if_pos h3]at h⊢
   exact ag.bE h (.cons .nil (.cons .nil (.cons (.refl _) .nil)))
  ·rw[if_neg h3]at h⊢
   exact h
 refine ag.aj (hint:=(fun t=>t==1000011)) Tryz.func18 (by kernel_rfl) rfl [4,5,6] (by kernel_rfl) (by decide) (by simp[Tryz.ntmps18]) ?_
 rw[Tryz.ntmps18]
 simp -implicitDefEqProofs only[↓reduceIte,go_sem,Nat.reduceAdd,Nat.reduceLT,Nat.reduceBEq,reduceCtorEq]
 refine ae.ok (hg _) ?_
 simp -implicitDefEqProofs only[↓reduceIte,go_sem,Nat.reduceAdd,Nat.reduceLT,Nat.reduceEqDiff,Nat.reduceBEq,reduceCtorEq,mneg,wm,h1f,ai,w1,w2,w3,h2f,w4,w5,aL,List.take_of_length_le (Nat.le_of_eq (ai b)),hdk,hdkn,hdkl,hcopy]
 refine⟨⟨by omega,by omega⟩,by omega,by omega,?_⟩
 refine⟨_,_,ay.drop H _ _,?_⟩
 simp -implicitDefEqProofs only[go_sem]
 refine dK [some true,some false,some true,some true,some false,none,some false,none] 0 H K.mixed (by kernel_rfl) (by kernel_rfl) (by kernel_rfl) (Ext.refl _) ?_
 simp -implicitDefEqProofs only[↓reduceIte,go_sem,Nat.reduceLT]
 refine ae.ok (sR _) ?_
 simp -implicitDefEqProofs only[↓reduceIte,go_sem,Nat.reduceLT,Nat.reduceEqDiff,List.take_of_length_le (show(aD B).length≤n by rw[ai];omega)]
 refine ae.ok (hsum _) ?_
 simp -implicitDefEqProofs only[↓reduceIte,go_sem,Nat.reduceLT]
 refine ae.ok (hfo _) ?_
 have hon:AJ [[D.v (.int .u8 (x0:Int))],[.v (.int .u8 (x1:Int))],[.v (.int .u8 (x2:Int))],[.v (.int .u8 (x3:Int))]]=some [.v (.int .u8 (x0:Int)),.v (.int .u8 (x1:Int)),.v (.int .u8 (x2:Int)),.v (.int .u8 (x3:Int))]:=rfl
 simp -implicitDefEqProofs only[↓reduceIte,go_sem,Nat.reduceAdd,Nat.reduceLT,Nat.reduceEqDiff,Int.reduceLE,Int.reduceToNat,aL,ai,ht4,hon]
 refine⟨by omega,?_⟩
 simp -implicitDefEqProofs only[↓reduceIte,go_sem,Nat.reduceLT,zc]
 by_cases h3:[y0,y1,y2,y3]=[x0,x1,x2,x3]
 ·rw[if_neg (by simpa using h3)]
  rw[show(decide ¬[y0,y1,y2,y3]=[x0,x1,x2,x3])=false from decide_eq_false fun h=>h h3]
  clear hR4 hr4 ht4
  have htR:List.take R.length (aD R)=aD R:=List.take_of_length_le (Nat.le_of_eq (ai R))
  simp -implicitDefEqProofs only[↓reduceIte,go_sem,Nat.reduceAdd,Nat.reduceLT,Nat.reduceEqDiff,Nat.reduceBEq,Int.reduceLE,Int.reduceToNat,ai,aL,htR,hd4,List.length_drop]
  refine⟨by omega,by omega,by omega,?_⟩
  refine aw.ret ?_
  simp -implicitDefEqProofs only[↓reduceIte,go_sem,Nat.reduceLT,Nat.reduceEqDiff,List.take_of_length_le (show(aD (R.drop 4)).length≤R.length-4 by rw[ai,List.length_drop];omega),List.take_of_length_le (show(aD B).length≤n by rw[ai];omega)]
 ·rw[if_pos h3]
  rw[show(decide ¬[y0,y1,y2,y3]=[x0,x1,x2,x3])=true from decide_eq_true h3]
  simp -implicitDefEqProofs only[↓reduceIte,go_sem,Nat.reduceLT]
  refine aw.aI ?_
  simp -implicitDefEqProofs only[↓reduceIte,go_sem,Nat.reduceLT,Nat.reduceEqDiff]
def cE(s:Sg)(b:List Nat):Sg:=⟨s.kind,s.bf,s.aU,s.aA,b⟩
theorem Io(b x rest y y2 B1 B2:List Nat)(s1 s2 t:Sg)(L:List aq)(e0 e1 e2 e3 e4:Int)(H0:aa)
  (ho:∀H,ag Tryz.prog 18 [.d (.list false (aD b)),iA (1048576:Int)] H (.ok (.bz [.d (.list false (aD x)),.d (.list false (aD rest)),iA e0])) H)
  (hh:e0=0→∀H,ag Tryz.prog 19 [.d (.list false (aD x))] H (.ok (.bz [.agg s1.cs,.d (.list false (aD y)),iA e1])) H)
  (hz:e0=0→e1=0→∀(G:aa) (id:Nat),G[id]?=some (sB s1)→ag Tryz.prog 20 [.ptr id 0 0 0,.d (.list false (aD y))] G (.ok (.bz [.d (.list false (aD y2)),iA e2])) (G.set id (sB s2)))
  (hv:e0=0→e1=0→e2=0→∀H,ag Tryz.prog 21 [.agg (cE s2 y2).cs] H (.ok (.bz [.d (.list false (L.map aq.enc)),iA e3])) H)
  (hm:e0=0→e1=0→e2=0→e3=0→s2.bf≠0∧∀H,ag Tryz.prog 14 [.d (.list false (L.map aq.enc)),iA s2.kind,iA s2.bf] H (.ok (.bz [.agg t.cs,iA e4])) H)
  (hB:e0=0→e1=0→e2=0→e3=0→e4=0→cb B1∧cb B2∧(∀H,ag Tryz.prog 15 [.agg t.cs] H (.ok (.d (.list false (aD B1)))) H)∧∀H,ag Tryz.prog 22 [.d (.list false (aD x))] H (.ok (.d (.list false (aD B2)))) H):
  ag Tryz.prog 8 [.d (.list false (aD b))] H0 (.ok (if e0≠0 then .bz [.agg ey,.d (.v (.slice none 0 0)),iA e0]else if e1≠0 then .bz [.agg ey,.d (.v (.slice none 0 0)),iA e1]else if e2≠0 then .bz [.agg ey,.d (.v (.slice none 0 0)),iA e2]
   else if e3≠0 then .bz [.agg ey,.d (.v (.slice none 0 0)),iA 4]else if e4≠0∨B1≠B2 then .bz [.agg ey,.d (.v (.slice none 0 0)),iA 4]else .bz [.agg t.cs,.d (.list false (aD rest)),iA 0])) H0:=by
 refine ag.bj (hint:=fun _=>false) Tryz.func8 (by kernel_rfl) rfl [.cell 2 30,.tmp 3,.tmp 4] (by kernel_rfl) (by simp[Tryz.ntmps8]) ?_
 rw[Tryz.ntmps8]
 simp -implicitDefEqProofs only[↓reduceIte,go_sem,Nat.reduceLT,reduceCtorEq]
 refine ae.ok (ho _) ?_
 by_cases h0:e0≠0
 ·rw[if_pos h0]
  simp -implicitDefEqProofs only[↓reduceIte,go_sem,au,Nat.reduceAdd,Nat.reduceLT,Nat.reduceEqDiff,h0]
  refine aZ.ret ?_
  simp -implicitDefEqProofs only[↓reduceIte,go_sem,ah,Nat.reduceAdd,Nat.reduceLT,Nat.reduceLeDiff,Nat.reduceEqDiff,aJ,a8,ey,cP]
 rw[if_neg h0]
 obtain rfl:e0=0:=by simpa using h0
 simp -implicitDefEqProofs only[↓reduceIte,go_sem,Nat.reduceLT,Nat.reduceEqDiff]
 refine ae.ok (hh rfl _) ?_
 unfold Sg.cs
 obtain⟨k1,w1,⟨zr1,zn1,zmn1,zmx1⟩,ns1,bd1⟩:=s1
 obtain⟨k2,w2,⟨zr2,zn2,zmn2,zmx2⟩,ns2,bd2⟩:=s2
 unfold sB cE Sg.cs at*
 by_cases h1:e1≠0
 ·rw[if_pos h1]
  simp -implicitDefEqProofs only[↓reduceIte,go_sem,au,Nat.reduceAdd,Nat.reduceLT,Nat.reduceEqDiff,h1]
  refine aZ.ret ?_
  simp -implicitDefEqProofs only[↓reduceIte,go_sem,ah,Nat.reduceAdd,Nat.reduceLT,Nat.reduceLeDiff,Nat.reduceEqDiff,aJ,a8,ey,cP]
 rw[if_neg h1]
 obtain rfl:e1=0:=by simpa using h1
 simp -implicitDefEqProofs only[↓reduceIte,go_sem,au,Nat.reduceAdd,Nat.reduceLT,Nat.reduceEqDiff]
 refine ae.ok (hz rfl rfl _ _ (by simp -implicitDefEqProofs only[go_sem])) ?_
 by_cases h2:e2≠0
 ·rw[if_pos h2]
  simp -implicitDefEqProofs only[↓reduceIte,go_sem,au,Nat.reduceAdd,Nat.reduceLT,Nat.reduceEqDiff,h2]
  refine aZ.ret ?_
  simp -implicitDefEqProofs only[↓reduceIte,go_sem,ah,Nat.reduceAdd,Nat.reduceLT,Nat.reduceLeDiff,Nat.reduceEqDiff,aJ,a8,ey,cP]
 rw[if_neg h2]
 obtain rfl:e2=0:=by simpa using h2
 simp -implicitDefEqProofs only[↓reduceIte,go_sem,ah,au,Nat.reduceAdd,Nat.reduceLT,Nat.reduceEqDiff]
 refine ae.ok (hv rfl rfl rfl _) ?_
 by_cases h3:e3≠0
 ·rw[if_pos h3]
  simp -implicitDefEqProofs only[↓reduceIte,go_sem,au,Nat.reduceAdd,Nat.reduceLT,Nat.reduceEqDiff,h3]
  refine aZ.ret ?_
  simp -implicitDefEqProofs only[↓reduceIte,go_sem,ah,Nat.reduceAdd,Nat.reduceLT,Nat.reduceLeDiff,Nat.reduceEqDiff,aJ,a8,ey,cP]
 rw[if_neg h3]
 obtain rfl:e3=0:=by simpa using h3
 obtain⟨hw0,hm⟩:=hm rfl rfl rfl rfl
 have hw0:(w2=0)=False:=eq_false hw0
 obtain⟨k4,w4,⟨zr4,zn4,zmn4,zmx4⟩,ns4,bd4⟩:=t
 simp -implicitDefEqProofs only[↓reduceIte,go_sem,ah,Nat.reduceAdd,Nat.reduceLT,Nat.reduceLeDiff,Nat.reduceEqDiff]
 refine ae.ok (hm _) ?_
 by_cases h4:e4≠0
 ·rw[if_pos (.inl h4)]
  simp -implicitDefEqProofs only[↓reduceIte,go_sem,au,Nat.reduceAdd,Nat.reduceLT,Nat.reduceEqDiff]
  refine aO K.mixed (by kernel_rfl) ?_
  simp -implicitDefEqProofs only[↓reduceIte,go_sem,au,Nat.reduceAdd,Nat.reduceLT,Nat.reduceEqDiff,h4]
  refine aZ.ret ?_
  simp -implicitDefEqProofs only[↓reduceIte,go_sem,ah,Nat.reduceAdd,Nat.reduceLT,Nat.reduceLeDiff,Nat.reduceEqDiff,aJ,a8,ey,cP]
 obtain rfl:e4=0:=by simpa using h4
 obtain⟨b1,b2,hBy,hk⟩:=hB rfl rfl rfl rfl rfl
 clear hB
 have hbe:=km b1 b2
 by_cases hBB:B1≠B2
 ·rw[if_pos (.inr hBB)]
  simp -implicitDefEqProofs only[↓reduceIte,go_sem,au,Nat.reduceAdd,Nat.reduceLT,Nat.reduceEqDiff]
  refine aO K.mixed (by kernel_rfl) ?_
  simp -implicitDefEqProofs only[↓reduceIte,go_sem,ah,Nat.reduceAdd,Nat.reduceLT,Nat.reduceLeDiff,Nat.reduceEqDiff,reduceCtorEq,hw0]
  refine ae.ok (hBy _) ?_
  simp -implicitDefEqProofs only[↓reduceIte,go_sem,Nat.reduceLT,Nat.reduceEqDiff,dq,iv]
  refine ae.ok (hk _) ?_
  simp -implicitDefEqProofs only[↓reduceIte,go_sem,au,Nat.reduceAdd,Nat.reduceLT,Nat.reduceEqDiff,reduceCtorEq,dq,iv,hbe,hBB]
  refine aZ.ret ?_
  simp -implicitDefEqProofs only[↓reduceIte,go_sem,ah,Nat.reduceAdd,Nat.reduceLT,Nat.reduceLeDiff,Nat.reduceEqDiff,aJ,a8,ey,cP]
 ·rw[if_neg (fun h=>h.elim (fun h=>h rfl) hBB)]
  obtain rfl:B1=B2:=by simpa using hBB
  simp -implicitDefEqProofs only[↓reduceIte,go_sem,au,Nat.reduceAdd,Nat.reduceLT,Nat.reduceEqDiff]
  refine aO K.mixed (by kernel_rfl) ?_
  simp -implicitDefEqProofs only[↓reduceIte,go_sem,ah,Nat.reduceAdd,Nat.reduceLT,Nat.reduceLeDiff,Nat.reduceEqDiff,reduceCtorEq,hw0]
  refine ae.ok (hBy _) ?_
  simp -implicitDefEqProofs only[↓reduceIte,go_sem,Nat.reduceLT,Nat.reduceEqDiff,dq,iv]
  refine ae.ok (hk _) ?_
  simp -implicitDefEqProofs only[↓reduceIte,go_sem,ah,au,Nat.reduceAdd,Nat.reduceLT,Nat.reduceEqDiff,reduceCtorEq,dq,iv,hbe]
  refine aZ.ret ?_
  simp -implicitDefEqProofs only[↓reduceIte,go_sem,ah,Nat.reduceAdd,Nat.reduceLT,Nat.reduceLeDiff,Nat.reduceEqDiff,aJ,a8]
theorem uO{b:List Nat}(h:cb b)(n:Nat):cb (b.take n):=fun c hc=>h c (List.mem_of_mem_take hc)
theorem fE:cb []:=fun c hc=>by cases hc
def nz(r b:List Nat):Prop:=r=[]∨∃j,r=b.drop j
theorem nz.byte{r b:List Nat}(h:nz r b)(hb:cb b):cb r:=by
 rcases h with rfl|⟨j,rfl⟩
 ·exact fE
 ·exact mQ hb j
theorem nz.len{r b:List Nat}(h:nz r b):r.length≤b.length:=by
 rcases h with rfl|⟨j,rfl⟩
 ·simp
 ·rw[List.length_drop];omega
theorem nz.refl(b:List Nat):nz b b:= .inr ⟨0,rfl⟩
theorem nz.trans{r c b:List Nat}(h1:nz r c)(h2:nz c b):nz r b:=by
 rcases h1 with rfl|⟨j,rfl⟩
 ·exact .inl rfl
 ·rcases h2 with rfl|⟨i,rfl⟩
  ·exact .inl (by simp)
  ·exact .inr ⟨i+j,by rw[List.drop_drop]⟩
theorem su{b:List Nat}(hb:cb b)(m:Nat):cb (cu b m).1∧(cu b m).1.length≤m∧nz (cu b m).2.1 b:=by
 unfold cu
 split
 ·exact⟨fE,by simp,.inl rfl⟩
 split
 ·exact⟨fE,by simp,.inl rfl⟩
 split
 ·exact⟨fE,by simp,.inl rfl⟩
 split
 ·exact⟨fE,by simp,.inl rfl⟩
 ·rename_i h _ _
  refine⟨uO (mQ hb _) _,?_,.inr ⟨_,List.drop_drop⟩⟩
  simp only[r5,List.length_take]
  omega
theorem x4{b:List Nat}(h:(cN b).2.2=0):∃kn cn zr zn:Nat,(cN b).1=⟨(kn:Int),(cn:Int),⟨zr,zn,⟨0,0,cP⟩,⟨0,0,cP⟩⟩,[],[]⟩∧1≤kn∧kn≤3∧zr≤4096∧zn≤zr∧nz (cN b).2.1 b:=by
 unfold cN at*
 split at h
 ·rename_i he;exact absurd h he
 rename_i h1
 rw[if_neg h1]
 split at h
 ·simp at h
 rename_i h2
 rw[if_neg h2]
 have h2:dj (fz 4 b []).1=true:=by simpa using h2
 unfold dj at h2
 simp only[Bool.and_eq_true,decide_eq_true_eq]at h2
 obtain⟨j,hj⟩:=ou 4 b []
 refine⟨_,_,_,_,rfl,h2.1.1.1,h2.1.1.2,h2.1.2,h2.2,?_⟩
 rcases hj with hj|hj
 ·exact .inr ⟨j,hj⟩
 ·exact .inl hj
theorem yx(b:List Nat)(k:Int):nz (ej b k).2.1 b:= .inr (eA b k)
theorem zy(s:Sg)(b:List Nat):(iS s b).1.kind=s.kind∧(iS s b).1.bf=s.bf∧(iS s b).1.aU.rows=s.aU.rows∧(iS s b).1.aA=s.aA∧nz (iS s b).2.1 b:=by
 unfold iS
 split
 ·exact⟨rfl,rfl,rfl,rfl,.refl b⟩
 split
 ·exact⟨rfl,rfl,rfl,rfl,.inl rfl⟩
 split
 ·exact⟨rfl,rfl,rfl,rfl,.inl rfl⟩
 ·exact⟨rfl,rfl,rfl,rfl,(yx _ _).trans (yx _ _)⟩
theorem Ak(s:Sg)(b:List Nat)(hs:s.aA=[]):(cQ s b).1.kind=s.kind∧(cQ s b).1.bf=s.bf∧(cQ s b).1.aU.rows=s.aU.rows∧(cQ s b).1.aA.length≤s.aU.rows∧nz (cQ s b).2.1 b:=by
 unfold cQ
 split
 ·obtain⟨h1,h2,h3,h4,h5⟩:=zy s b
  exact⟨h1,h2,h3,by rw[h4,hs];simp,h5⟩
 split
 ·exact⟨rfl,rfl,rfl,by rw[hs];simp,.inl rfl⟩
 split
 ·exact⟨rfl,rfl,rfl,by simp[fI],.inl rfl⟩
 ·obtain⟨h1,h2,h3,h4,h5⟩:=zy (fI s (qX (b.take ((s.aU.rows+7)/8)) s.aU.rows)) (b.drop ((s.aU.rows+7)/8))
  refine⟨h1,h2,h3,?_,h5.trans (.inr ⟨_,rfl⟩)⟩
  rw[h4]
  simp[fI,qX,bG]
theorem mS:∀{ns:List Bool} {l:List aq} {v:aq},v∈eh ns l→v=⟨0,0,cP⟩∨v∈l
 |[],l,v,h=>by simp[eh]at h
 |true::ns,l,v,h=>by
  rcases List.mem_cons.1 (by simpa[eh]using h)with h|h
  ·exact .inl h
  ·exact mS h
 |false::ns,[],v,h=>by simp[eh]at h
 |false::ns,w::l,v,h=>by
  rcases List.mem_cons.1 (by simpa[eh]using h)with h|h
  ·exact .inr (by simp[h])
  ·rcases mS h with h|h
   ·exact .inl h
   ·exact .inr (by simp[h])
theorem pX:∀(ns:List Bool) (l:List aq),(eh ns l).length≤ns.length
 |[],l=>by simp[eh]
 |true::ns,l=>by simp only[eh,List.length_cons];have:=pX ns l;omega
 |false::ns,[]=>by simp[eh]
 |false::ns,w::l=>by simp only[eh,List.length_cons];have:=pX ns l;omega
theorem zC{s:Sg}(hb:cb s.body)(hn:s.aA.length≤4096)(h:(dr s).2=0):1≤s.bf∧s.bf≤4∧(dr s).1.length≤4096∧∀v∈(dr s).1,eJ v.i:=by
 have hlen:=sz s.body ((s.aU.rows:Int)-(aC s.aA:Int)) s.kind s.bf hb
 have hgood:=fun l=>ve (b:=s.body) (n:=(s.aU.rows:Int)-(aC s.aA:Int)) (k:=s.kind) (w:=s.bf) (l:=l) hb
 unfold dr at*
 generalize gj s.body ((s.aU.rows:Int)-(aC s.aA:Int)) s.kind s.bf=q at*
 obtain⟨l,e⟩:=q
 simp only at hlen h hgood⊢
 by_cases c:e≠0∨s.aA=[]
 ·rw[if_pos c]at h⊢
  simp only at h
  subst h
  obtain⟨g1,g2,g3,g4⟩:=hgood l rfl
  exact⟨g3,g4,hlen,fun v hv=>(g2 v hv).2.2⟩
 ·rw[if_neg c]at h⊢
  obtain rfl:e=0:=by simpa using fun h=>c (.inl h)
  obtain⟨g1,g2,g3,g4⟩:=hgood l rfl
  refine⟨g3,g4,?_⟩
  unfold fl at h⊢
  split at h
  ·simp at h
  rename_i c1
  rw[if_neg c1]
  split at h
  ·simp at h
  rename_i c2
  rw[if_neg c2]
  refine⟨by have:=pX s.aA l;simp only;omega,fun v hv=>?_⟩
  rcases mS hv with rfl|hv
  ·exact⟨by decide,by decide⟩
  ·exact(g2 v hv).2.2
noncomputable def dU(b:List Nat):Sg×List Nat×Int:=
 if(cu b 1048576).2.2≠0 then(jI,[],(cu b 1048576).2.2)
 else if(cN (cu b 1048576).1).2.2≠0 then(jI,[],(cN (cu b 1048576).1).2.2)
 else if(cQ (cN (cu b 1048576).1).1 (cN (cu b 1048576).1).2.1).2.2≠0 then(jI,[],(cQ (cN (cu b 1048576).1).1 (cN (cu b 1048576).1).2.1).2.2)
 else pt (cu b 1048576).1 (cu b 1048576).2.1 (cE (cQ (cN (cu b 1048576).1).1 (cN (cu b 1048576).1).2.1).1 (cQ (cN (cu b 1048576).1).1 (cN (cu b 1048576).1).2.1).2.1)
where pt (x rest:List Nat) (s:Sg):Sg×List Nat×Int:=
 if(dr s).2≠0 then(jI,[],4)
 else if(ee (dr s).1 s.kind s.bf).2≠0∨ku s.kind.toNat s.bf.toNat (ee (dr s).1 s.kind s.bf).1≠bZ x then(jI,[],4)
 else((ee (dr s).1 s.kind s.bf).1,rest,0)
theorem uK{k c:Nat}{s:Sg}(h:cb (eK k c s))(hl:(eK k c s).length≤20000000):cb (ku k c s):=
 ((dH (by omega)).app h).app (oM _)
theorem nG(b:List Nat)(hb:cb b)(hl:b.length≤140737488351232)(H:aa):
  ag Tryz.prog 8 [.d (.list false (aD b))] H (.ok (.bz [.agg (dU b).1.cs,.d (.list false (aD (dU b).2.1)),iA (dU b).2.2])) H:=by
 have ho:=fun H=>EE b false 1048576 (by omega) hb hl H
 obtain⟨ox,oxl,ot⟩:=su hb 1048576
 have hbk:=fun H=>Cf (cu b 1048576).1 false ox (by omega) H
 unfold dU
 generalize cu b 1048576=o at*
 obtain⟨x,rest,e0⟩:=o
 simp only at ho ox oxl ot hbk⊢
 have hh:=fun H=>FG x ox (by omega) H
 have hho:= @x4 x
 generalize cN x=h at*
 obtain⟨s1,y,e1⟩:=h
 simp only at hh hho⊢
 have hzo:=Ak s1 y
 have hzz:e1=0→∀(G:aa) (id:Nat),G[id]?=some (sB s1)→ag Tryz.prog 20 [.ptr id 0 0 0,.d (.list false (aD y))] G (.ok (.bz [.d (.list false (aD (cQ s1 y).2.1)),iA (cQ s1 y).2.2])) (G.set id (sB (cQ s1 y).1)):=by
  intro h1 G id hG
  obtain⟨kn,cn,zr,zn,rfl,g1,g2,g3,g4,g5⟩:=hho h1
  exact Bl _ y (by simp only;omega) (g5.byte ox) (by have:=g5.len;omega) G id hG
 generalize cQ s1 y=z at*
 obtain⟨s2,y2,e2⟩:=z
 simp only at hzo hzz⊢
 have hfact:e1=0→cb y2∧y2.length≤1048576∧s2.aU.rows≤4096∧s2.aA.length≤4096∧(∃kn:Nat,s2.kind=(kn:Int))∧∃cn:Nat,s2.bf=(cn:Int):=by
  intro h1
  obtain⟨kn,cn,zr,zn,rfl,g1,g2,g3,g4,g5⟩:=hho h1
  obtain⟨z1,z2,z3,z4,z5⟩:=hzo rfl
  simp only at z1 z2 z3 z4
  exact⟨z5.byte (g5.byte ox),by have:=z5.len;have:=g5.len;omega,by omega,by omega,⟨kn,z1⟩,cn,z2⟩
 have hv:e1=0→∀H,ag Tryz.prog 21 [.agg (cE s2 y2).cs] H (.ok (.bz [.d (.list false ((dr (cE s2 y2)).1.map aq.enc)),iA (dr (cE s2 y2)).2])) H:=by
  intro h1 H
  obtain⟨f1,f2,f3,f4,_,_⟩:=hfact h1
  exact Fx (cE s2 y2) (by simp only[cE];omega) (by simp only[cE];omega) f1 (by simp only[cE];omega) H (by have:=sz (cE s2 y2).body (((cE s2 y2).aU.rows:Int)-(aC (cE s2 y2).aA:Int)) (cE s2 y2).kind (cE s2 y2).bf f1;omega)
 have hvo:e1=0→(dr (cE s2 y2)).2=0→_:=fun h1=>zC (s:=cE s2 y2) (hfact h1).1 (hfact h1).2.2.2.1
 unfold dU.pt
 obtain⟨S,hS⟩:∃S,S=cE s2 y2:=⟨_,rfl⟩
 have hSk:S.kind=s2.kind:=by rw[hS];rfl
 have hSw:S.bf=s2.bf:=by rw[hS];rfl
 rw[←hS]at hv hvo⊢
 have hm:e1=0→(dr S).2=0→∀H,ag Tryz.prog 14 [.d (.list false ((dr S).1.map aq.enc)),iA S.kind,iA S.bf] H (.ok (.bz [.agg (ee (dr S).1 S.kind S.bf).1.cs,iA (ee (dr S).1 S.kind S.bf).2])) H:=by
  intro h1 h2 H
  obtain⟨_,_,g3,g4⟩:=hvo h1 h2
  exact uZ _ _ _ g4 (by omega) H
 have hB:e1=0→(dr S).2=0→(ee (dr S).1 S.kind S.bf).2=0→cb (ku S.kind.toNat S.bf.toNat (ee (dr S).1 S.kind S.bf).1)∧cb (bZ x)∧(∀H,ag Tryz.prog 15 [.agg (ee (dr S).1 S.kind S.bf).1.cs] H (.ok (.d (.list false (aD (ku S.kind.toNat S.bf.toNat (ee (dr S).1 S.kind S.bf).1))))) H)∧∀H,ag Tryz.prog 22 [.d (.list false (aD x))] H (.ok (.d (.list false (aD (bZ x))))) H:=by
  intro h1 h2 h3
  obtain⟨g1,_,g3,g4⟩:=hvo h1 h2
  obtain⟨kn,cn,m1,m2,m3,m4,m5,m6,m7,m8,m9⟩:=(px h3).bytes g4
  have hw:bX (dr S).1 S.kind S.bf=S.bf:=if_neg (by omega)
  rw[hw]at m4
  rw[show S.kind.toNat=kn by omega,show S.bf.toNat=cn by omega]
  exact⟨uK m7 m8,((dH (by omega)).app ox).app (oM _),m9.1,hbk⟩
 generalize dr S=v at*
 obtain⟨L,e3⟩:=v
 simp only at hv hvo hm hB⊢
 generalize ee L S.kind S.bf=m at*
 obtain⟨t,e4⟩:=m
 simp only at hm hB⊢
 generalize ku S.kind.toNat S.bf.toNat t=B1 at*
 rw[hSk,hSw]at hm
 have h:=Io b x rest y y2 B1 (bZ x) s1 s2 t L e0 e1 e2 e3 e4 H ho (fun _=>hh) (fun _ h1=>hzz h1) (fun _ h1 _=>by rw[←hS];exact hv h1) (fun _ h1 _ h3=>⟨by have:=(hvo h1 h3).1;omega,hm h1 h3⟩) (fun _ h1 _ h3 h4=>hB h1 h3 h4)
 by_cases h0:e0≠0
 ·rw[if_pos h0]at h⊢
  exact ag.bE h (.cons fJ (.cons .nil (.cons (.refl _) .nil)))
 rw[if_neg h0]at h⊢
 by_cases h1:e1≠0
 ·rw[if_pos h1]at h⊢
  exact ag.bE h (.cons fJ (.cons .nil (.cons (.refl _) .nil)))
 rw[if_neg h1]at h⊢
 by_cases h2:e2≠0
 ·rw[if_pos h2]at h⊢
  exact ag.bE h (.cons fJ (.cons .nil (.cons (.refl _) .nil)))
 rw[if_neg h2]at h⊢
 by_cases h3:e3≠0
 ·rw[if_pos h3]at h⊢
  exact ag.bE h (.cons fJ (.cons .nil (.cons (.refl _) .nil)))
 rw[if_neg h3]at h⊢
 by_cases h4:e4≠0∨B1≠bZ x
 ·rw[if_pos h4]at h⊢
  exact ag.bE h (.cons fJ (.cons .nil (.cons (.refl _) .nil)))
 rw[if_neg h4]at h⊢
 exact h
def Ay:aq:=⟨0,0,cP⟩
def jv(v:aq):aq:=if v.kind=0 then Ay else v
theorem jB(l:List aq):aC (bL l)+(aE l).length=l.length:=by
 induction l with
 |nil=>rfl
 |cons v l ih=>
  unfold aC bL aE at*
  by_cases h:v.kind=0
  ·simp[h]at*;omega
  ·simp[h]at*;omega
theorem B9(l:List aq):eh (bL l) (aE l)=l.map jv:=by
 induction l with
 |nil=>rfl
 |cons v l ih=>
  unfold bL aE jv at*
  by_cases h:v.kind=0
  ·simp[h,eh,Ay]at*;exact ih
  ·simp[h,eh]at*;exact ih
theorem Fb(l:List aq):aE (l.map jv)=aE l:=by
 induction l with
 |nil=>rfl
 |cons v l ih=>
  unfold aE jv at*
  by_cases h:v.kind=0
  ·simp[h,Ay]at*;exact ih
  ·simp[h]at*;exact ih
theorem AA(l:List aq):bL (l.map jv)=bL l:=by
 unfold bL
 rw[List.map_map]
 apply List.map_congr_left
 intro v _
 by_cases h:v.kind=0<;>simp[jv,h,Ay]
theorem Eo(l:List aq):bu (l.map jv)=bu l:=by
 have:∀(m:List aq) (z:Zn),(m.map jv).foldl aW z=m.foldl aW z:=by
  intro m
  induction m with
  |nil=>intro z;rfl
  |cons v m ih=>
   intro z
   rw[List.map_cons,List.foldl_cons,List.foldl_cons,ih]
   congr 1
   by_cases h:v.kind=0
   ·simp[jv,h,Ay,aW]
   ·simp[jv,h]
 unfold bu
 rw[this,List.length_map]
theorem D3(l:List aq):aE (aE l)=aE l:=by simp[aE]
theorem Al{l:List aq}(h:(aE l).length=l.length):aE l=l:=List.Sublist.eq_of_length List.filter_sublist h
theorem GL{l:List aq}(h:(aE l).length=l.length):l.map jv=l:=by
 have e:=Al h
 have:∀v∈l,jv v=v:=fun v hv=>by
  rw[←e]at hv
  have:=(List.mem_filter.1 hv).2
  simp only[decide_eq_true_eq]at this
  simp[jv,this]
 rw[List.map_congr_left (g:=id) this,List.map_id]
structure Ends (m:List aq) (z:Zn):Prop where
 none:aE m=[]→z.mn=Ay∧z.mx=Ay
 some:aE m≠[]→z.mn∈aE m∧z.mx∈aE m
 all:∀v∈aE m,0≤aM v z.mn∧aM v z.mx≤0
theorem Ends.step{m:List aq}{z:Zn}(h:Ends m z)(v:aq):Ends (m++[v]) (aW z v):=by
 unfold aW
 by_cases hk:v.kind=0
 ·rw[if_pos hk]
  have e:aE (m++[v])=aE m:=by simp[aE,hk]
  exact⟨by rw[e];exact h.none,by rw[e];exact h.some,by rw[e];exact h.all⟩
 ·rw[if_neg hk]
  have e:aE (m++[v])=aE m++[v]:=by simp[aE,hk]
  have hne:aE (m++[v])≠[]:=by rw[e];simp
  have vv:=aG.self v
  by_cases hm:aE m=[]
  ·obtain⟨h1,h2⟩:=h.none hm
   have e1:ff z v=⟨z.rows,z.aA,v,v⟩:=by unfold ff;rw[h1];rfl
   have e2:fg (ff z v) v=⟨z.rows,z.aA,v,v⟩:=by rw[e1];unfold fg;rw[if_neg (by simp only;omega)]
   have e3:gO (fg (ff z v) v) v=⟨z.rows,z.aA,v,v⟩:=by rw[e2];unfold gO;rw[if_neg (by simp only;omega)]
   rw[e3]
   refine⟨fun h=>absurd h hne,fun _=>⟨by rw[e,hm];simp,by rw[e,hm];simp⟩,fun u hu=>?_⟩
   rw[e,hm]at hu
   obtain rfl:u=v:=by simpa using hu
   simp only;omega
  ·obtain⟨h1,h2⟩:=h.some hm
   have hk1:z.mn.kind≠0:=by simpa using(List.mem_filter.1 h1).2
   have e1:ff z v=z:=by unfold ff;rw[if_neg hk1]
   rw[e1]
   have g2:(fg z v).mn∈aE (m++[v])∧(fg z v).mx=z.mx∧∀u∈aE (m++[v]),0≤aM u (fg z v).mn:=by
    unfold fg
    rw[e]
    by_cases c:aM v z.mn<0
    ·rw[if_pos c]
     refine⟨by simp,rfl,fun u hu=>?_⟩
     rcases List.mem_append.1 hu with hu|hu
     ·have a1:=(h.all u hu).1
      have a2:=aG.fC u z.mn
      have a3:=aG.fC u v
      have a4:=aG.fC v u
      have a5:=aG.dw v u z.mn c
      simp only
      omega
     ·obtain rfl:u=v:=by simpa using hu
      simp only;omega
    ·rw[if_neg c]
     refine⟨by simp[h1],rfl,fun u hu=>?_⟩
     rcases List.mem_append.1 hu with hu|hu
     ·exact(h.all u hu).1
     ·obtain rfl:u=v:=by simpa using hu
      omega
   obtain⟨b1,b2,b3⟩:=g2
   have mm:=aG.fC v z.mx
   have mm2:=aG.fC z.mx v
   unfold gO
   rw[b2]
   by_cases c:0<aM v z.mx
   ·rw[if_pos c]
    refine⟨fun h=>absurd h hne,fun _=>⟨b1,by rw[e];simp⟩,fun u hu=>⟨b3 u hu,?_⟩⟩
    rw[e]at hu
    rcases List.mem_append.1 hu with hu|hu
    ·have a1:=(h.all u hu).2
     exact aG.le_trans a1 (by show aM z.mx v≤0;omega)
    ·obtain rfl:u=v:=by simpa using hu
     simp only;omega
   ·rw[if_neg c]
    refine⟨fun h=>absurd h hne,fun _=>⟨b1,by rw[e,b2];simp[h2]⟩,fun u hu=>⟨b3 u hu,?_⟩⟩
    rw[b2]
    rw[e]at hu
    rcases List.mem_append.1 hu with hu|hu
    ·exact(h.all u hu).2
    ·obtain rfl:u=v:=by simpa using hu
     omega
theorem E2(l:List aq):Ends l (bu l):=by
 have:∀(r m:List aq) (z:Zn),Ends m z→Ends (m++r) (r.foldl aW z):=by
  intro r
  induction r with
  |nil=>intro m z h;simpa using h
  |cons v r ih=>
   intro m z h
   have:=ih _ _ (h.step v)
   rwa[List.append_assoc]at this
 have h0:Ends [] ⟨l.length,0,⟨0,0,cP⟩,⟨0,0,cP⟩⟩:=⟨fun _=>⟨rfl,rfl⟩,fun h=>absurd rfl h,fun v hv=>by cases hv⟩
 simpa[bu]using this l [] _ h0
theorem ym{x:List Nat}(hx:x.length≤1048576)(more:List Nat):cu (bZ x++more) 1048576=(x,more,0):=by
 have e:bZ x++more=bp x.length++(x++(dL (iK x)++more)):=by unfold bZ;simp
 have hg:=gN x.length (by omega) (x++(dL (iK x)++more))
 have hB:r5 (bZ x++more)=x:=by
  unfold r5
  rw[e,hg]
  simp only
  rw[List.drop_left' rfl,List.take_left' rfl]
 have hR:uB (bZ x++more)=dL (iK x)++more:=by
  unfold uB
  rw[e,hg]
  simp only
  rw[←List.drop_drop,List.drop_left' rfl,List.drop_left' rfl]
 unfold cu
 rw[hB,hR,e,hg]
 simp only
 rw[if_neg (by simp),if_neg (by omega),if_neg (by simp[dL]),List.take_left' (by rfl),if_neg (by simp),List.drop_left' (by rfl)]
theorem Ff(a b c d:Nat)(ha:a<1048576)(hb:b<1048576)(hc:c<1048576)(hd:d<1048576)(r:List Nat):fz 4 (bp a++(bp b++(bp c++(bp d++r)))) []=([a,b,c,d],r,0):=by
 have st:∀(f n:Nat) (r acc:List Nat),n<1048576→fz (f+1) (bp n++r) acc=fz f r (acc++[n]):=by
  intro f n r acc hn
  have hg:=gN n (by omega) r
  show(if(aQ (bp n++r)).2.2≠0 then _ else _)=_
  rw[hg]
  simp only
  rw[if_neg (by simp),List.drop_left' rfl,Nat.min_eq_left (by omega)]
 rw[st 3 a _ _ ha,st 2 b _ _ hb,st 1 c _ _ hc,st 0 d _ _ hd]
 rfl
theorem Gd(l:List Bool):dp (l.map fun b=>b.toNat) 1=l:=by
 induction l with
 |nil=>rfl
 |cons b l ih=>
  have e:dp ((b::l).map fun b=>b.toNat) 1=ca b.toNat 1++dp (l.map fun b=>b.toNat) 1:=rfl
  rw[e,ih]
  cases b<;>rfl
theorem HP(l:List Bool):bq (bR l) l.length 1=0∧qX (bR l) l.length=l:=by
 have h:=mo (l.map fun b=>b.toNat) 1 (fun n hn=>by obtain⟨b,_,rfl⟩:=List.mem_map.1 hn;cases b<;>decide)
 unfold cF at h
 rw[Gd,List.length_map]at h
 refine⟨h.2,?_⟩
 unfold qX
 rw[h.1,List.map_map]
 have:∀b∈l,((fun x:Nat=>decide (x=1))∘fun b:Bool=>b.toNat) b=b:=fun b _=>by cases b<;>rfl
 rw[List.map_congr_left (g:=id) this,List.map_id]
theorem DO{l:List aq}{k w:Int}{s:Sg}(hm:Made l k w s)(hok:∀v∈l,eJ v.i):dr s=(l.map jv,0):=by
 have hcs:=jB l
 have hok2:∀v∈aE l,eJ v.i:=fun v hv=>hok v (kG hv)
 have hg:=DR hm.o7 hm.CS hok2
 have hro:=gm l
 rw[hm.eq]
 unfold dr bY
 simp only
 by_cases c:(aE l).length=l.length
 ·rw[if_pos c]
  have e:((bu l).rows:Int)-(aC []:Int)=((aE l).length:Int):=by rw[hro,c];simp[aC]
  rw[e,hg,if_pos (.inr rfl),GL c,Al c]
 ·rw[if_neg c]
  have e:((bu l).rows:Int)-(aC (bL l):Int)=((aE l).length:Int):=by omega
  rw[e,hg]
  have hne:bL l≠[]:=by
   intro h
   have:=dN l
   rw[h]at this
   have h2:(aE l).length≤l.length:=List.length_filter_le _ _
   simp at this
   omega
  rw[if_neg (fun h=>h.elim (fun h=>h rfl) hne)]
  unfold fl
  have hnl:=dN l
  simp only
  rw[if_neg (by omega),D3,if_neg (by simp),B9]
theorem FZ(l:List aq)(k w:Int):ee (l.map jv) k w=ee l k w:=by
 unfold ee bY bX
 rw[Fb,Eo,AA,List.length_map]
theorem Ce{l:List aq}{k w:Int}{s:Sg}(hm:Made l k w s):ee l k (bX l k w)=(s,0):=by
 obtain⟨h1,h2,h3,h4⟩:=hm
 have hw:=(lh h3).1
 have e:bX l k (bX l k w)=bX l k w:=by
  generalize bX l k w=c at*
  exact if_neg (by omega)
 unfold ee
 rw[e,if_neg (by simpa using h1),if_neg (by omega),if_neg (by simpa using h3),h4]
theorem D7{l:List aq}{k w:Int}{s:Sg}(hm:Made l k w s)(hok:∀v∈l,eJ v.i)(c:Int)(r:List Nat):
  cQ ⟨k,c,⟨(bu l).rows,(bu l).aA,Ay,Ay⟩,[],[]⟩ (bR (bY l)++(cW (bu l).mn++(cW (bu l).mx++r)))=(⟨k,c,bu l,bY l,[]⟩,r,0):=by
 have hcs:=jB l
 have hro:=gm l
 have hnu:=gq l
 have hE:=E2 l
 have hkk:=((dB _ _).1 hm.o7).1
 have key:∀ns,iS ⟨k,c,⟨(bu l).rows,(bu l).aA,Ay,Ay⟩,ns,[]⟩ (cW (bu l).mn++(cW (bu l).mx++r))=(⟨k,c,bu l,ns,[]⟩,r,0):=by
  intro ns
  unfold iS
  simp only
  by_cases h:(bu l).aA=(bu l).rows
  ·have hs:aE l=[]:=List.eq_nil_of_length_eq_zero (by omega)
   obtain⟨e1,e2⟩:=hE.none hs
   rw[if_pos h]
   have ez:bu l=⟨(bu l).rows,(bu l).aA,Ay,Ay⟩:=by
    generalize bu l=z at*
    obtain⟨a,b,m1,m2⟩:=z
    simp only at e1 e2
    rw[e1,e2]
   have e0:cW Ay=[]:=rfl
   rw[e1,e2,e0,←ez]
   rfl
  ·have hs:aE l≠[]:=fun hs=>by rw[hs]at hcs;simp at hcs;omega
   obtain⟨m1,m2⟩:=hE.some hs
   rw[if_neg h]
   have g1:=hm.Il hok _ (kG m1) (by simpa using(List.mem_filter.1 m1).2)
   have g2:=hm.Il hok _ (kG m2) (by simpa using(List.mem_filter.1 m2).2)
   have o1:=rh (v:=(bu l).mn) (cW (bu l).mx++r) g1.2.2 g1.1 (by rw[g1.2.1];exact hkk)
   have o2:=rh (v:=(bu l).mx) r g2.2.2 g2.1 (by rw[g2.2.1];exact hkk)
   rw[g1.2.1]at o1
   rw[g2.2.1]at o2
   rw[o1]
   simp only
   rw[o2]
   simp
 unfold cQ
 simp only
 by_cases h0:(bu l).aA=0
 ·have e:bY l=[]:=if_pos (by omega)
  rw[if_pos h0,e]
  exact key []
 ·have e:bY l=bL l:=if_neg (by omega)
  have hnl:=dN l
  obtain⟨n1,n2⟩:=HP (bL l)
  have hpl:=cH (bL l)
  have hlen:(bR (bL l)).length=((bu l).rows+7)/8:=by rw[hpl,hnl,hro]
  rw[if_neg h0,e,if_neg (by rw[List.length_append];omega),List.take_left' hlen,List.drop_left' hlen]
  rw[hnl,←hro]at n1 n2
  rw[n1,n2,if_neg (by simp)]
  exact key _
theorem G8{l:List aq}{k w:Int}{s:Sg}(hm:Made l k w s)(hok:∀v∈l,eJ v.i){kn cn:Nat}(hk:k=(kn:Int))(hc:bX l k w=(cn:Int))(hl:(eK kn cn s).length≤1048576)(more:List Nat):dU (ku kn cn s++more)=(s,more,0):=by
 have hkk:=((dB _ _).1 hm.o7).1
 rw[fD]at hkk
 obtain⟨c1,c2,_⟩:=lh hm.CS
 have hcs:=jB l
 have hro:=gm l
 have hnu:=gq l
 have hl4:=hm.len
 have hz:=D7 hm hok (bX l k w) (bU (aE l) k (bX l k w)).1
 have hv:=DO hm hok
 have hmk:=Ce hm
 have hx:eK kn cn s=bp kn++(bp cn++(bp (bu l).rows++(bp (bu l).aA++(bR (bY l)++(cW (bu l).mn++(cW (bu l).mx++(bU (aE l) k (bX l k w)).1)))))):=by
  rw[hm.eq]
  simp[eK,eD]
 have hnf:=Ff kn cn (bu l).rows (bu l).aA (by omega) (by omega) (by omega) (by omega) (bR (bY l)++(cW (bu l).mn++(cW (bu l).mx++(bU (aE l) k (bX l k w)).1)))
 rw[←hx]at hnf
 have hh:cN (eK kn cn s)=(⟨k,bX l k w,⟨(bu l).rows,(bu l).aA,Ay,Ay⟩,[],[]⟩,bR (bY l)++(cW (bu l).mn++(cW (bu l).mx++(bU (aE l) k (bX l k w)).1)),0):=by
  unfold cN
  rw[hnf]
  simp only
  have hho:dj [kn,cn,(bu l).rows,(bu l).aA]=true:=by
   simp only[dj,List.getD_cons_zero,List.getD_cons_succ,Bool.and_eq_true,decide_eq_true_eq]
   omega
  rw[if_neg (by simp),hho,if_neg (by simp)]
  simp only[ng,List.getD_cons_zero,List.getD_cons_succ]
  rw[←hk,←hc]
  rfl
 unfold dU ku
 rw[ym hl]
 simp only
 rw[if_neg (by simp),hh]
 simp only
 rw[if_neg (by simp),hz]
 simp only
 rw[if_neg (by simp)]
 have hs:cE ⟨k,bX l k w,bu l,bY l,[]⟩ (bU (aE l) k (bX l k w)).1=s:=by rw[hm.eq];rfl
 rw[hs]
 unfold dU.pt
 have hsk:s.kind=k:=by rw[hm.eq]
 have hsw:s.bf=bX l k w:=by rw[hm.eq]
 rw[hv]
 simp only
 rw[if_neg (by simp),hsk,hsw,FZ,hmk]
 simp only
 rw[if_neg]
 rintro(h|h)
 ·exact h rfl
 ·apply h
  unfold ku
  rw[show k.toNat=kn by omega,show(bX l k w).toNat=cn by omega]
theorem Made.Nu{l:List aq}{k w:Int}{s:Sg}(hm:Made l k w s)(hok:∀v∈l,eJ v.i){kn cn:Nat}(hk:k=(kn:Int))(hc:bX l k w=(cn:Int)):(eK kn cn s).length≤2700+s.body.length:=by
 have hkk:=((dB _ _).1 hm.o7).1
 rw[fD]at hkk
 obtain⟨c1,c2,_⟩:=lh hm.CS
 have hz:uk (bu l):=sw fun v hv hk=>⟨hok v hv,(hm.Il hok v hv hk).1⟩
 have hnu:=gq l
 have hro:=gm l
 have hcl:=ef (bL l)
 have hnl:=dN l
 have hml:(bY l).length≤4096:=by have:=hm.len;unfold bY;split;simp;omega
 have hl4:=hm.len
 have hlen1:=bD 10 kn (by omega)
 have hlen2:=bD 10 cn (by omega)
 have hlen3:=bD 10 (bu l).rows (by omega)
 have hlen4:=bD 10 (bu l).aA (by omega)
 have hv1:=dk hz.1.1 hz.1.2
 have hv2:=dk hz.2.1 hz.2.2
 rw[hm.eq]
 unfold eK
 simp only[List.length_append,eD,List.flatMap_cons,List.flatMap_nil,List.length_nil,cH]
 omega
def MA(a v:aq):aq:=if a.kind=0 then v else if aM v a<0 then v else a
def Mn(a b v:aq):aq:=if a.kind=0 then v else if 0<aM v b then v else b
theorem mr(r n:Nat)(a b v:aq)(h:v.kind≠0):aW ⟨r,n,a,b⟩ v=⟨r,n,MA a v,Mn a b v⟩:=by
 have vv:=aG.self v
 unfold aW ff fg gO MA Mn
 rw[if_neg h]
 by_cases c:a.kind=0
 ·simp[c,vv]
 ·by_cases c1:aM v a<0<;>by_cases c2:0<aM v b<;>simp[c,c1,c2]
theorem nr:∀(l:List aq) (r n:Nat) (a b:aq),l.foldl aW ⟨r,n,a,b⟩=(aE l).foldl aW ⟨r,n+aC (bL l),a,b⟩
 |[],r,n,a,b=>rfl
 |v::l,r,n,a,b=>by
  by_cases h:v.kind=0
  ·have e1:aE (v::l)=aE l:=by simp[aE,h]
   have e2:aC (bL (v::l))=aC (bL l)+1:=by simp[bL,aC,h]
   have e3:aW ⟨r,n,a,b⟩ v=⟨r,n+1,a,b⟩:=if_pos h
   rw[List.foldl_cons,e3,nr l,e1,e2]
   congr 2
   omega
  ·have e1:aE (v::l)=v::aE l:=by simp[aE,h]
   have e2:aC (bL (v::l))=aC (bL l):=by simp[bL,aC,h]
   rw[List.foldl_cons,mr _ _ _ _ _ h,nr l,e1,e2,List.foldl_cons,mr _ _ _ _ _ h]
theorem AO(l:List aq)(nn:Bool)(hl:l.length≤1000000000)(hs:∀v∈l,v.s.size≤140737488351232)(H:aa):ag Tryz.prog 97 [.d (.list nn (l.map aq.enc))] H (.ok (.agg (bu l).cs)) H:=by
 have hsp:=fun H=>jQ l nn hl H
 have hz:bu l=(aE l).foldl aW ⟨l.length,0+aC (bL l),⟨0,0,cP⟩,⟨0,0,cP⟩⟩:=nr l _ _ _ _
 rw[Nat.zero_add]at hz
 have hcs:=jB l
 have hSs:∀v∈aE l,v.s.size≤140737488351232∧v.kind≠0:=fun v hv=>⟨hs v (List.mem_filter.1 hv).1,by simpa using(List.mem_filter.1 hv).2⟩
 rw[hz]
 generalize aC (bL l)=n at*
 generalize bL l=ns at*
 generalize aE l=S at*
 have w0:IntKind.i64.wrap ((l.length:Int)-(S.length:Int))=(n:Int):=by rw[wrap64_in _ (by omega) (by omega)];omega
 refine ag.bj (hint:=fun _=>false) Tryz.func97 (by kernel_rfl) rfl [.cell 2 27] (by kernel_rfl) (by simp[Tryz.ntmps97]) ?_
 rw[Tryz.ntmps97]
 simp -implicitDefEqProofs only[↓reduceIte,go_sem,Nat.reduceLT,reduceCtorEq]
 refine ae.ok (hsp _) ?_
 simp -implicitDefEqProofs only[↓reduceIte,go_sem,au,Nat.reduceAdd,Nat.reduceLT,Nat.reduceLeDiff,Nat.reduceEqDiff,reduceCtorEq,List.length_map,w0]
 refine aP (fun k s H'=>∃mn mx,(S.take k).foldl aW ⟨l.length,n,⟨0,0,cP⟩,⟨0,0,cP⟩⟩=⟨l.length,n,mn,mx⟩∧(k=0→mn.kind=0)∧(0<k→mn.kind≠0)∧H'=H++[.box 27 8 0 1 [iA 0,iA 0,iA 0,iA 0,sA ⟨#[]⟩,iA 0,iA 0,sA ⟨#[]⟩],.box 27 8 0 1 (Zn.cs ⟨l.length,n,mn,mx⟩)]∧s 2= .ptr H.length 0 0 0∧s 4= .d (.list false (S.map aq.enc))∧s 5= .ptr (H.length+1) 0 0 0∧s 6=iA k) S.length (by omega) (ay.refl _ _) ?_ ?_ ?_
 ·refine⟨⟨0,0,cP⟩,⟨0,0,cP⟩,rfl,fun _=>rfl,fun h=>by omega,?_,?_⟩
  ·simp -implicitDefEqProofs only[go_sem,Zn.cs,cP]
  ·simp -implicitDefEqProofs only[↓reduceIte,go_sem,Nat.reduceLT,Nat.reduceEqDiff]
 ·rintro k s H' hk hw ⟨mn,mx,hf,h0,h1,rfl,t2,t4,t5,t6⟩
  have hx:=List.getElem?_eq_getElem hk
  obtain⟨hvs,hvk⟩:=hSs _ (List.getElem_mem hk)
  have e1:(S.take (k+1)).foldl aW ⟨l.length,n,⟨0,0,cP⟩,⟨0,0,cP⟩⟩=⟨l.length,n,MA mn S[k],Mn mn mx S[k]⟩:=by rw[List.take_succ_eq_append_getElem hk,List.foldl_append,hf];exact mr _ _ _ _ _ hvk
  generalize S[k]=v at*
  clear hf
  by_cases hk0:k=0
  ·have m1:MA mn v=v:=if_pos (h0 hk0)
   have m2:Mn mn mx v=v:=if_pos (h0 hk0)
   rw[m1,m2]at e1
   subst hk0
   have hw1:IntKind.i64.wrap 1=1:=by decide
   simp -implicitDefEqProofs only[↓reduceIte,go_sem,Nat.reduceLT,Nat.reduceEqDiff,t4,t6,List.length_map,show(0<(S.length:Int))=True from eq_true (by omega)]
   refine aO K.mixed (by kernel_rfl) ?_
   simp -implicitDefEqProofs only[↓reduceIte,go_sem,au,Nat.reduceAdd,Nat.reduceLT,Nat.reduceLeDiff,Nat.reduceEqDiff,Int.reduceLE,Int.reduceToNat,reduceCtorEq,t4,t5,t6,hx,aq.enc,Zn.cs]
   refine aO K.mixed (by kernel_rfl) ?_
   simp -implicitDefEqProofs only[↓reduceIte,go_sem,au,Nat.reduceAdd,Nat.reduceLT,Nat.reduceEqDiff,Int.reduceLE,Int.reduceAdd,Int.reduceToNat,t4,t5,t6,hx,aq.enc,hw1]
   refine c9.same ⟨v,v,e1,fun h=>h.elim,fun _=>hvk,rfl,?_⟩
   simp -implicitDefEqProofs only[↓reduceIte,go_sem,Nat.reduceLT,Nat.reduceEqDiff,t2,t4,t5]
  ·have hmk:¬mn.kind=0:=h1 (by omega)
   have kz:((k:Int)=0)=False:=eq_false (by omega)
   have m1:MA mn v=if aM v mn<0 then v else mn:=if_neg hmk
   have m2:Mn mn mx v=if 0<aM v mx then v else mx:=if_neg hmk
   have c1d:=fun H=>iF v mn (by omega) H
   have c2d:=fun H=>iF v mx (by omega) H
   simp -implicitDefEqProofs only[↓reduceIte,go_sem,Nat.reduceLT,Nat.reduceEqDiff,t4,t6,List.length_map,eq_true hk]
   refine aO K.mixed (by kernel_rfl) ?_
   simp -implicitDefEqProofs only[↓reduceIte,go_sem,ah,Nat.reduceAdd,Nat.reduceLT,Nat.reduceLeDiff,Nat.reduceEqDiff,reduceCtorEq,t4,t5,t6,hx,aq.enc,Zn.cs,kz]
   refine ae.ok (c1d _) ?_
   by_cases c1:aM v mn<0
   ·rw[if_pos c1]at m1
    simp -implicitDefEqProofs only[↓reduceIte,go_sem,au,Nat.reduceAdd,Nat.reduceLT,Nat.reduceLeDiff,Nat.reduceEqDiff,reduceCtorEq,t4,t5,t6,hx,aq.enc,c1]
    refine aO K.mixed (by kernel_rfl) ?_
    simp -implicitDefEqProofs only[↓reduceIte,go_sem,ah,Nat.reduceAdd,Nat.reduceLT,Nat.reduceEqDiff,t4,t5,t6,hx,aq.enc,kz]
    refine ae.ok (c2d _) ?_
    by_cases c2:0<aM v mx
    ·rw[if_pos c2]at m2
     rw[m1,m2]at e1
     simp -implicitDefEqProofs only[↓reduceIte,go_sem,au,Nat.reduceAdd,Nat.reduceLT,Nat.reduceEqDiff,reduceCtorEq,t4,t5,t6,hx,aq.enc,c2,hw]
     refine c9.same ⟨v,v,e1,fun h=>h.elim,fun _=>hvk,rfl,?_⟩
     simp -implicitDefEqProofs only[↓reduceIte,go_sem,Nat.reduceLT,Nat.reduceEqDiff,t2,t4,t5]
    ·rw[if_neg c2]at m2
     rw[m1,m2]at e1
     simp -implicitDefEqProofs only[↓reduceIte,go_sem,Nat.reduceLT,Nat.reduceEqDiff,reduceCtorEq,t6,c2,hw]
     refine c9.same ⟨v,mx,e1,fun h=>h.elim,fun _=>hvk,rfl,?_⟩
     simp -implicitDefEqProofs only[↓reduceIte,go_sem,Nat.reduceLT,Nat.reduceEqDiff,t2,t4,t5]
   ·rw[if_neg c1]at m1
    simp -implicitDefEqProofs only[↓reduceIte,go_sem,Nat.reduceLT,Nat.reduceEqDiff,reduceCtorEq,c1]
    refine aO K.mixed (by kernel_rfl) ?_
    simp -implicitDefEqProofs only[↓reduceIte,go_sem,ah,Nat.reduceAdd,Nat.reduceLT,Nat.reduceEqDiff,t4,t5,t6,hx,aq.enc,kz]
    refine ae.ok (c2d _) ?_
    by_cases c2:0<aM v mx
    ·rw[if_pos c2]at m2
     rw[m1,m2]at e1
     simp -implicitDefEqProofs only[↓reduceIte,go_sem,au,Nat.reduceAdd,Nat.reduceLT,Nat.reduceEqDiff,reduceCtorEq,t4,t5,t6,hx,aq.enc,c2,hw]
     refine c9.same ⟨mn,v,e1,fun h=>h.elim,fun _=>hmk,rfl,?_⟩
     simp -implicitDefEqProofs only[↓reduceIte,go_sem,Nat.reduceLT,Nat.reduceEqDiff,t2,t4,t5]
    ·rw[if_neg c2]at m2
     rw[m1,m2]at e1
     simp -implicitDefEqProofs only[↓reduceIte,go_sem,Nat.reduceLT,Nat.reduceEqDiff,reduceCtorEq,t6,c2,hw]
     refine c9.same ⟨mn,mx,e1,fun h=>h.elim,fun _=>hmk,rfl,?_⟩
     simp -implicitDefEqProofs only[↓reduceIte,go_sem,Nat.reduceLT,Nat.reduceEqDiff,t2,t4,t5]
 ·rintro s H' ⟨mn,mx,hf,h0,h1,rfl,t2,t4,t5,t6⟩
  rw[List.take_length]at hf
  rw[hf]
  simp -implicitDefEqProofs only[↓reduceIte,go_sem,ah,au,Nat.reduceAdd,Nat.reduceLT,Nat.reduceEqDiff,t2,t4,t5,t6,List.length_map,Zn.cs]
  refine aZ.ret ?_
  simp -implicitDefEqProofs only[↓reduceIte,go_sem,ah,Nat.reduceAdd,Nat.reduceLeDiff,Nat.reduceEqDiff,aJ,a8,t2]
end Go.Proofs.YtmbagpfmfiegkaaGreat
