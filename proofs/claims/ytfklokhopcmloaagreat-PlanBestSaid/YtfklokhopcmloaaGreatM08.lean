/- Contracts of functions and lemmas for planBest_holds, part 8. -/
import Derived.Laws.Externs
import Derived.Laws.Bits64b
import Derived.Lib.Mul64
import Derived.Test.YtfklokhopcmloaaGreatM07
set_option maxHeartbeats 8000000
set_option maxRecDepth 100000
set_option linter.all false
namespace Go.Proofs.YtfklokhopcmloaaGreat
open Go.Proofs.YtfklokhopcmloaaGreatAw Go.RowKit
def bY(l:List ak):List ak:=l.filter fun v=>decide (v.kind≠0)
def p7(l:List ak):List (List AV):=(bY l).map fun v=>[v.av]
abbrev lB(l:List ak):az:= .box 106 1 0 1 [.d (.list false (l.map ak.enc))]
theorem vS(l:List ak)(v:ak):bY (l++[v])=if v.kind=0 then bY l else bY l++[v]:=by
 unfold bY
 rw[List.filter_append]
 by_cases h:v.kind=0<;>simp[h]
theorem Aq(l:List ak){k:Nat}(hk:k<l.length)(hz:l[k].kind≠0):∃h:(bY (l.take k)).length<(p7 l).length,(p7 l)[(bY (l.take k)).length]=[l[k].av]:=by
 have e:bY l=bY (l.take k)++l[k]::bY (l.drop (k+1)):=by
  have h1:l=l.take k++(l[k]::l.drop (k+1)):=by rw[←List.drop_eq_getElem_cons hk,List.take_append_drop]
  have h2:bY (l.take k++(l[k]::l.drop (k+1)))=bY (l.take k)++l[k]::bY (l.drop (k+1)):=by
   unfold bY
   rw[List.filter_append,List.filter_cons,if_pos (by simpa using hz)]
  rw[←h1]at h2
  exact h2
 unfold p7
 rw[e]
 refine⟨by simp,?_⟩
 simp
theorem Af(l:List ak)(H:aa):ag Tryz.prog 91 [.d (.list false (l.map ak.enc))] H (.ok (.fn 108 [.ptr H.length 0 0 0])) (H++[lB l]):=by
 refine ag.aj (hint:=(fun _=>false)) Tryz.func91 (by kernel_rfl) rfl [2] (by kernel_rfl) (by decide) (by simp[Tryz.ntmps91]) ?_
 rw[Tryz.ntmps91]
 simp -implicitDefEqProofs only[↓reduceIte,go_sem,Nat.reduceLT,Nat.reduceEqDiff]
 exact⟨_,al.refl _ _,by simp -implicitDefEqProofs only[↓reduceIte,go_sem,Nat.reduceLT]⟩
theorem Dl(l:List ak)(id:Nat)(hl:l.length≤1000000000000):mU Tryz.prog 108 [.ptr id 0 0 0] (fun H=>H[id]?=some (lB l)) (p7 l):=by
 intro r s0 J Jx m Hs h0 hsb hJ hY
 refine ou.aj (hint:=fun t=>t==3000000) Tryz.func108 (by kernel_rfl) rfl [] (by kernel_rfl) (by decide) (by simp[Tryz.ntmps108]) ?_
 rw[Tryz.ntmps108]
 obtain⟨hC0,_,hl0⟩:=hJ 0 Hs h0
 have hx0:(Hs++[az.lp r s0])[id]?=some (lB l):=by rw[List.getElem?_append_left (ai hC0)];exact hC0
 simp -implicitDefEqProofs only[↓reduceIte,go_sem,ab,Nat.reduceLT,hx0]
 refine aO (fun k s H'=>∃Hk,J (bY (l.take k)).length Hk∧H'=Hk++[.lp r s0]∧s 0= .fN m∧s 5= .d (.list false (l.map ak.enc))∧s 6=iA l.length∧s 7=iA k) l.length (by omega) (al.refl _ _) ?_ ?_ ?_
 ·refine⟨Hs,h0,rfl,?_⟩
  simp -implicitDefEqProofs only[↓reduceIte,go_sem,Nat.reduceLT,Nat.reduceEqDiff,reduceCtorEq]
 ·rintro k s H' hk hw ⟨Hk,hJk,rfl,t0,t5,t6,t7⟩
  have hx:(l.map ak.enc)[k]?=some [.v (.int .i64 l[k].kind),.v (.int .i64 l[k].i),.v (.string l[k].s)]:=by rw[List.getElem?_map,List.getElem?_eq_getElem hk];rfl
  have e1:=vS (l.take k) l[k]
  rw[←List.take_succ_eq_append_getElem hk]at e1
  obtain⟨hCk,hbk,hlk⟩:=hJ _ _ hJk
  by_cases hz:l[k].kind=0
  ·rw[if_pos hz]at e1
   generalize l[k]=v at*
   simp -implicitDefEqProofs only[↓reduceIte,go_sem,ab,an,Nat.reduceAdd,Nat.reduceLT,Nat.reduceLeDiff,Nat.reduceEqDiff,Nat.reduceBEq,reduceCtorEq,t5,t6,t7,hk,hx,hz]
   refine⟨_,_,al.iter rfl hbk hlk hl0 hsb,Hk,by rw[e1];exact hJk,rfl,?_⟩
   simp -implicitDefEqProofs only[↓reduceIte,go_sem,Nat.reduceLT,Nat.reduceEqDiff,reduceCtorEq,t0,t5,t6,hw,Nat.lt_add_one]
  ·rw[if_neg hz]at e1
   obtain⟨hi,hxi⟩:=Aq l hk hz
   have hYk:=fun T=>hY _ hi Hk T hJk
   rw[hxi]at hYk
   generalize hv:l[k]=v at*
   simp -implicitDefEqProofs only[↓reduceIte,go_sem,ab,an,Nat.reduceAdd,Nat.reduceLT,Nat.reduceLeDiff,Nat.reduceEqDiff,Nat.reduceBEq,reduceCtorEq,t0,t5,t6,t7,hk,hx,hz]
   refine px.ok (hYk [.box 69 3 0 1 [iA v.kind,iA v.i,sA v.s]]) ?_
   intro b H' hb
   cases b with
   |true=>
    rw[if_pos rfl]at hb
    obtain⟨Hk',hJk',rfl⟩:=hb
    obtain⟨hCk',hbk',hlk'⟩:=hJ _ _ hJk'
    simp -implicitDefEqProofs only[↓reduceIte,go_sem,Nat.reduceAdd,Nat.reduceLT,Nat.reduceEqDiff,Nat.reduceBEq,t7]
    refine⟨_,_,al.iter rfl hbk' hlk' hl0 hsb,Hk',by rw[e1,List.length_append];exact hJk',rfl,?_⟩
    simp -implicitDefEqProofs only[↓reduceIte,go_sem,Nat.reduceLT,Nat.reduceEqDiff,reduceCtorEq,t0,t5,t6,hw,Nat.lt_add_one]
   |false=>
    rw[if_neg (by simp)]at hb
    obtain⟨Hk',c,hjx,hbk',hlk',rfl⟩:=hb
    simp -implicitDefEqProofs only[↓reduceIte,go_sem,Nat.reduceLT,Nat.reduceEqDiff]
    exact⟨_,_,al.iter rfl hbk' hlk' hl0 hsb,rfl,.inr ⟨Hk',c,hjx,hlk',rfl⟩⟩
 ·rintro s H' ⟨Hk,hJk,rfl,t0,t5,t6,t7⟩
  rw[List.take_length]at hJk
  simp -implicitDefEqProofs only[↓reduceIte,go_sem,Nat.reduceLT,t6,t7]
  exact⟨_,_,al.refl _ _,rfl,.inl ⟨Hk,by unfold p7;rw[List.length_map];exact hJk,rfl⟩⟩
def dY(l:List ak):List Bool:=l.map fun v=>decide (v.kind=0)
theorem sD(l:List ak)(v:ak):dY (l++[v])=dY l++[decide (v.kind=0)]:=by simp[dY]
theorem kH(l:List ak):(dY l).length=l.length:=by simp[dY]
theorem xc(l:List ak)(hl:l.length≤1000000000)(H:aa):ag Tryz.prog 74 [.d (.list false (l.map ak.enc))] H (.ok (.aZ [.d (.list false (iU (dY l))),.d (.list false ((bY l).map ak.enc))])) H:=by
 refine ag.aj (hint:=(fun t=>t==2000000)) Tryz.func74 (by kernel_rfl) rfl [2,3] (by kernel_rfl) (by decide) (by simp[Tryz.ntmps74]) ?_
 rw[Tryz.ntmps74]
 simp -implicitDefEqProofs only[↓reduceIte,go_sem,Nat.reduceAdd,Nat.reduceLT,Nat.reduceBEq,reduceCtorEq]
 refine aO (fun k s H'=>H'=H++[.arr 4 1 k (iU (dY (l.take k)))]∧s 0= .d (.list false (l.map ak.enc))∧s 4= .sl H.length k 0 k∧s 9= .d (.list false (l.map ak.enc))∧s 10=iA l.length∧s 11=iA k) l.length (by omega) (al.gB _ _ 4 4 1 (by decide) (by simp -implicitDefEqProofs only[↓reduceIte,go_sem,Nat.reduceLT,Nat.reduceEqDiff]) _) ?_ ?_ ?_
 ·refine⟨rfl,?_⟩
  simp -implicitDefEqProofs only[↓reduceIte,go_sem,Nat.reduceLT,Nat.reduceEqDiff,reduceCtorEq]
 ·rintro k s H' hk hw ⟨rfl,t0,t4,t9,t10,t11⟩
  have hx:(l.map ak.enc)[k]?=some [.v (.int .i64 l[k].kind),.v (.int .i64 l[k].i),.v (.string l[k].s)]:=by rw[List.getElem?_map,List.getElem?_eq_getElem hk];rfl
  have e1:=sD (l.take k) l[k]
  rw[←List.take_succ_eq_append_getElem hk]at e1
  have hml:(dY (l.take k)).length=k:=by rw[kH,List.length_take];omega
  rw[e1]
  generalize dY (l.take k)=B at*
  generalize l[k]=v at*
  generalize hdv:decide (v.kind=0)=dv at*
  simp -implicitDefEqProofs only[↓reduceIte,go_sem,ab,an,Nat.reduceAdd,Nat.reduceLT,Nat.reduceLeDiff,Nat.reduceEqDiff,Nat.reduceBEq,t4,t9,t10,t11,hk,hx,hdv,qE,hml,vb]
  refine⟨by omega,by omega,?_⟩
  refine c7.cut [.arr 4 1 (k+1) (iU (B++[dv]))] _ 1 rfl rfl (by simp -implicitDefEqProofs only[go_sem]) ?_
  refine⟨rfl,?_⟩
  simp -implicitDefEqProofs only[↓reduceIte,go_sem,Nat.reduceLT,Nat.reduceEqDiff,reduceCtorEq,t0,t9,t10,hw]
 ·rintro s H' ⟨rfl,t0,t4,t9,t10,t11⟩
  rw[List.take_length]
  simp -implicitDefEqProofs only[↓reduceIte,go_sem,Nat.reduceAdd,Nat.reduceLT,Nat.reduceBEq,reduceCtorEq,t0,t10,t11]
  refine ae.ok (Af l _) ?_
  simp -implicitDefEqProofs only[go_sem,Nat.reduceAdd]
  have hsq:=Dl l (H.length+2) (by omega)
  have hfl:(bY l).length≤l.length:=List.length_filter_le _ _
  unfold p7 at hsq
  generalize bY l=L at*
  have hBl:(iU (dY l)).length≤l.length:=by rw[qE,kH];exact Nat.le_refl _
  generalize iU (dY l)=B at*
  refine gQ (fun _=>false) (fun k Hk=>Hk=H++[.arr 4 1 l.length B,.box 106 1 0 1 [.sl (H.length+3) k 0 k],lB l,.arr 69 3 k ((L.take k).map ak.enc)]) (fun _ _=>False) rfl rfl (al.dA _ _ (H.length+1) 106 1 0 1 [.d (.v (.slice none 0 0))] 0 _ 69 3 (by decide) (by simp -implicitDefEqProofs only[go_sem]) rfl rfl) (by simp -implicitDefEqProofs only[↓reduceIte,go_sem,Nat.reduceLT]) hsq ?_ ?_ ?_ ?_ ?_ (fun _ _ h=>h.elim)
  ·intro v hv
   obtain⟨u,_,rfl⟩:=List.mem_map.1 hv
   exact⟨rfl,fun w hw=>by rw[List.mem_singleton.1 hw];rfl⟩
  ·simp -implicitDefEqProofs only[go_sem,Nat.reduceAdd,List.take_zero]
  ·rintro k _ rfl
   exact⟨by simp -implicitDefEqProofs only[go_sem],by simp -implicitDefEqProofs only[go_sem,Nat.reduceAdd]⟩
  ·rintro k hk _ rfl
   rw[List.length_map]at hk
   have e1:(L.take (k+1)).map ak.enc=(L.take k).map ak.enc++[L[k].enc]:=by rw[List.take_succ_eq_append_getElem hk,List.map_append];rfl
   have hlen:((L.take k).map ak.enc).length=k:=by rw[List.length_map,List.length_take];omega
   rw[e1,List.getElem_map]
   generalize (L.take k).map ak.enc=E at*
   generalize L[k]=v at*
   simp -implicitDefEqProofs only[↓reduceIte,go_sem,ab,an,Nat.reduceAdd,Nat.reduceLT,Nat.reduceLeDiff,Nat.reduceEqDiff,hlen]
   refine⟨by omega,by omega,?_⟩
   refine tX.cut [.arr 4 1 l.length B,.box 106 1 0 1 [.sl (H.length+3) (k+1) 0 (k+1)],lB l,.arr 69 3 (k+1) (E++[v.enc])] _ rfl rfl (by simp -implicitDefEqProofs only[go_sem,Nat.reduceAdd]) (by simp -implicitDefEqProofs only[go_sem,Nat.reduceAdd,Nat.reduceLT]) ?_
   rfl
  ·rintro _ rfl
   rw[List.length_map,List.take_length]
   simp -implicitDefEqProofs only[go_sem,Nat.reduceAdd,Nat.reduceBEq]
   refine aQ K.mixed (by kernel_rfl) ?_
   simp -implicitDefEqProofs only[↓reduceIte,go_sem,ab,Nat.reduceLT,Nat.reduceEqDiff,t4]
   refine au.ret ?_
   simp -implicitDefEqProofs only[↓reduceIte,go_sem,Nat.reduceLT,Nat.reduceEqDiff,List.take_of_length_le (show(L.map ak.enc).length≤L.length by simp),List.take_of_length_le hBl]
structure Sg where
 kind:Int
 DA:Int
 gn:Zn
 cx:List Bool
 body:List Nat
deriving DecidableEq
def Sg.cs(s:Sg):List AV:=[iA s.kind,iA s.DA,iA s.gn.rows,iA s.gn.cx,iA s.gn.mn.kind,iA s.gn.mn.i,sA s.gn.mn.s,iA s.gn.mx.kind,iA s.gn.mx.i,sA s.gn.mx.s,.d (.list false (iU s.cx)),.d (.list false (dF s.body))]
def uY:Zn:=⟨0,0,⟨0,0,jK⟩,⟨0,0,jK⟩⟩
def Hd:Sg:=⟨0,0,uY,[],[]⟩
def pg:List AV:=[iA 0,iA 0,iA 0,iA 0,iA 0,iA 0,sA jK,iA 0,iA 0,sA jK,.d (.v (.slice none 0 0)),.d (.v (.slice none 0 0))]
theorem qQ:Sub (.agg pg) (.agg Hd.cs):=
 .agg (.cons (.refl _) (.cons (.refl _) (.cons (.refl _) (.cons (.refl _) (.cons (.refl _) (.cons (.refl _) (.cons (.refl _) (.cons (.refl _) (.cons (.refl _) (.cons (.refl _) (.cons .nil (.cons .nil .nil))))))))))))
def jL(l:List ak)(k w:Int):Int:=if w=0 then uo (bY l) k else w
def qA(l:List ak):List Bool:=if(bY l).length=l.length then[]else dY l
def ka(l:List ak)(k w:Int):Sg×Int:=
 if a7 (bY l) k≠0 then(Hd,a7 (bY l) k)
 else if 4096<l.length then(Hd,2)
 else if(jq (bY l) k (jL l k w)).2≠0 then(Hd,(jq (bY l) k (jL l k w)).2)
 else(⟨k,jL l k w,pS l,qA l,(jq (bY l) k (jL l k w)).1⟩,0)
theorem zj(l:List ak)(k w:Int)(hok:∀v∈l,jU v.i)(hl:l.length≤1000000000)(H:aa):
  ag Tryz.prog 52 [.d (.list false (l.map ak.enc)),iA k,iA w] H (.ok (.aZ [.agg (ka l k w).1.cs,iA (ka l k w).2])) H:=by
 have hs:=fun H=>xc l hl H
 have hfl:(bY l).length≤l.length:=List.length_filter_le _ _
 have hok2:∀v∈bY l,jU v.i:=fun v hv=>hok v ((List.mem_filter.1 hv).1)
 have hc:=fun H=>dd (bY l) k false H (by omega)
 have hbe:=fun H=>Aa (bY l) k hok2 (by omega) H
 have hbo:=fun H=>pX (bY l) k (jL l k w) hok2 (by omega) H
 have hzo:=fun H=>zF l false hl H
 unfold ka qA
 have hw0:w=0→jL l k w=uo (bY l) k:=fun h=>if_pos h
 have hw1:w≠0→jL l k w=w:=fun h=>if_neg h
 generalize jL l k w=w' at*
 generalize uo (bY l) k=be at*
 generalize jq (bY l) k w'=bo at*
 obtain⟨bb,e⟩:=bo
 simp only at hbo⊢
 generalize pS l=z at*
 generalize a7 (bY l) k=pe at*
 have hol:((dY l).length=l.length):=kH l
 generalize dY l=ns at*
 generalize bY l=L at*
 by_cases hpe:pe≠0
 ·rw[if_pos hpe]
  refine ag.jX (cs:=[.agg pg,iA pe]) ?_ (.cons qQ (.cons (.refl _) .nil))
  refine ag.cC (hint:=fun _=>false) Tryz.func52 (by kernel_rfl) rfl [.cell 6 94,.tmp 7] (by kernel_rfl) (by simp[Tryz.ntmps52]) ?_
  rw[Tryz.ntmps52]
  simp -implicitDefEqProofs only[↓reduceIte,go_sem,Nat.reduceLT,reduceCtorEq]
  refine ae.ok (hs _) ?_
  simp -implicitDefEqProofs only[↓reduceIte,go_sem,Nat.reduceLT,Nat.reduceEqDiff]
  refine ae.ok (hc _) ?_
  simp -implicitDefEqProofs only[↓reduceIte,go_sem,an,Nat.reduceAdd,Nat.reduceLT,Nat.reduceEqDiff,hpe]
  refine cN.ret ?_
  simp -implicitDefEqProofs only[↓reduceIte,go_sem,ab,Nat.reduceAdd,Nat.reduceLT,Nat.reduceLeDiff,Nat.reduceEqDiff,bI,cO,pg,jK]
 rw[if_neg hpe]
 obtain rfl:pe=0:=by simpa using hpe
 by_cases h4:4096<l.length
 ·rw[if_pos h4]
  refine ag.jX (cs:=[.agg pg,iA 2]) ?_ (.cons qQ (.cons (.refl _) .nil))
  refine ag.cC (hint:=fun _=>false) Tryz.func52 (by kernel_rfl) rfl [.cell 6 94,.tmp 7] (by kernel_rfl) (by simp[Tryz.ntmps52]) ?_
  rw[Tryz.ntmps52]
  simp -implicitDefEqProofs only[↓reduceIte,go_sem,Nat.reduceLT,reduceCtorEq]
  refine ae.ok (hs _) ?_
  simp -implicitDefEqProofs only[↓reduceIte,go_sem,Nat.reduceLT,Nat.reduceEqDiff]
  refine ae.ok (hc _) ?_
  simp -implicitDefEqProofs only[↓reduceIte,go_sem,an,Nat.reduceAdd,Nat.reduceLT,Nat.reduceEqDiff,reduceCtorEq,List.length_map,show((4096:Int)<(l.length:Int))=True from eq_true (by omega)]
  refine cN.ret ?_
  simp -implicitDefEqProofs only[↓reduceIte,go_sem,ab,Nat.reduceAdd,Nat.reduceLT,Nat.reduceLeDiff,Nat.reduceEqDiff,bI,cO,pg,jK]
 rw[if_neg h4]
 have h4f:((4096:Int)<(l.length:Int))=False:=eq_false (by omega)
 by_cases he:e≠0
 ·rw[if_pos he]
  refine ag.jX (cs:=[.agg pg,iA e]) ?_ (.cons qQ (.cons (.refl _) .nil))
  by_cases hw:w=0
  ·obtain rfl:=hw0 hw
   refine ag.cC (hint:=fun _=>false) Tryz.func52 (by kernel_rfl) rfl [.cell 6 94,.tmp 7] (by kernel_rfl) (by simp[Tryz.ntmps52]) ?_
   rw[Tryz.ntmps52]
   simp -implicitDefEqProofs only[↓reduceIte,go_sem,Nat.reduceLT,reduceCtorEq]
   refine ae.ok (hs _) ?_
   simp -implicitDefEqProofs only[↓reduceIte,go_sem,Nat.reduceLT,Nat.reduceEqDiff]
   refine ae.ok (hc _) ?_
   simp -implicitDefEqProofs only[↓reduceIte,go_sem,Nat.reduceLT,Nat.reduceEqDiff,reduceCtorEq,List.length_map,h4f,hw]
   refine ae.ok (hbe _) ?_
   simp -implicitDefEqProofs only[↓reduceIte,go_sem,Nat.reduceLT,Nat.reduceEqDiff]
   refine ae.ok (hbo _) ?_
   simp -implicitDefEqProofs only[↓reduceIte,go_sem,an,Nat.reduceAdd,Nat.reduceLT,Nat.reduceEqDiff,he]
   refine cN.ret ?_
   simp -implicitDefEqProofs only[↓reduceIte,go_sem,ab,Nat.reduceAdd,Nat.reduceLT,Nat.reduceLeDiff,Nat.reduceEqDiff,bI,cO,pg,jK]
  ·obtain rfl:=hw1 hw
   refine ag.cC (hint:=fun _=>false) Tryz.func52 (by kernel_rfl) rfl [.cell 6 94,.tmp 7] (by kernel_rfl) (by simp[Tryz.ntmps52]) ?_
   rw[Tryz.ntmps52]
   simp -implicitDefEqProofs only[↓reduceIte,go_sem,Nat.reduceLT,reduceCtorEq]
   refine ae.ok (hs _) ?_
   simp -implicitDefEqProofs only[↓reduceIte,go_sem,Nat.reduceLT,Nat.reduceEqDiff]
   refine ae.ok (hc _) ?_
   simp -implicitDefEqProofs only[↓reduceIte,go_sem,Nat.reduceLT,Nat.reduceEqDiff,reduceCtorEq,List.length_map,h4f,hw]
   refine ae.ok (hbo _) ?_
   simp -implicitDefEqProofs only[↓reduceIte,go_sem,an,Nat.reduceAdd,Nat.reduceLT,Nat.reduceEqDiff,he]
   refine cN.ret ?_
   simp -implicitDefEqProofs only[↓reduceIte,go_sem,ab,Nat.reduceAdd,Nat.reduceLT,Nat.reduceLeDiff,Nat.reduceEqDiff,bI,cO,pg,jK]
 rw[if_neg he]
 obtain rfl:e=0:=by simpa using he
 by_cases hn:L.length=l.length
 ·have hnt:((L.length:Int)=(l.length:Int))=True:=eq_true (by omega)
  rw[if_pos hn]
  refine ag.jX (cs:=[.agg [iA k,iA w',iA z.rows,iA z.cx,iA z.mn.kind,iA z.mn.i,sA z.mn.s,iA z.mx.kind,iA z.mx.i,sA z.mx.s,.d (.v (.slice none 0 0)),.d (.list false (dF bb))],iA 0]) ?_
   (.cons (.agg (.cons (.refl _) (.cons (.refl _) (.cons (.refl _) (.cons (.refl _) (.cons (.refl _) (.cons (.refl _) (.cons (.refl _) (.cons (.refl _) (.cons (.refl _) (.cons (.refl _) (.cons .nil (.cons (.refl _) .nil))))))))))))) (.cons (.refl _) .nil))
  by_cases hw:w=0
  ·obtain rfl:=hw0 hw
   refine ag.cC (hint:=fun _=>false) Tryz.func52 (by kernel_rfl) rfl [.cell 6 94,.tmp 7] (by kernel_rfl) (by simp[Tryz.ntmps52]) ?_
   rw[Tryz.ntmps52]
   simp -implicitDefEqProofs only[↓reduceIte,go_sem,Nat.reduceLT,reduceCtorEq]
   refine ae.ok (hs _) ?_
   simp -implicitDefEqProofs only[↓reduceIte,go_sem,Nat.reduceLT,Nat.reduceEqDiff]
   refine ae.ok (hc _) ?_
   simp -implicitDefEqProofs only[↓reduceIte,go_sem,Nat.reduceLT,Nat.reduceEqDiff,reduceCtorEq,List.length_map,h4f,hw]
   refine ae.ok (hbe _) ?_
   simp -implicitDefEqProofs only[↓reduceIte,go_sem,Nat.reduceLT,Nat.reduceEqDiff]
   refine ae.ok (hbo _) ?_
   simp -implicitDefEqProofs only[↓reduceIte,go_sem,Nat.reduceLT,Nat.reduceEqDiff,reduceCtorEq,List.length_map,hnt]
   refine ae.ok (hzo _) ?_
   simp -implicitDefEqProofs only[↓reduceIte,go_sem,an,Nat.reduceAdd,Nat.reduceLT,Nat.reduceLeDiff,Nat.reduceEqDiff,Zn.cs]
   refine cN.ret ?_
   simp -implicitDefEqProofs only[↓reduceIte,go_sem,ab,Nat.reduceAdd,Nat.reduceLT,Nat.reduceLeDiff,Nat.reduceEqDiff,bI,cO]
  ·obtain rfl:=hw1 hw
   refine ag.cC (hint:=fun _=>false) Tryz.func52 (by kernel_rfl) rfl [.cell 6 94,.tmp 7] (by kernel_rfl) (by simp[Tryz.ntmps52]) ?_
   rw[Tryz.ntmps52]
   simp -implicitDefEqProofs only[↓reduceIte,go_sem,Nat.reduceLT,reduceCtorEq]
   refine ae.ok (hs _) ?_
   simp -implicitDefEqProofs only[↓reduceIte,go_sem,Nat.reduceLT,Nat.reduceEqDiff]
   refine ae.ok (hc _) ?_
   simp -implicitDefEqProofs only[↓reduceIte,go_sem,Nat.reduceLT,Nat.reduceEqDiff,reduceCtorEq,List.length_map,h4f,hw]
   refine ae.ok (hbo _) ?_
   simp -implicitDefEqProofs only[↓reduceIte,go_sem,Nat.reduceLT,Nat.reduceEqDiff,reduceCtorEq,List.length_map,hnt]
   refine ae.ok (hzo _) ?_
   simp -implicitDefEqProofs only[↓reduceIte,go_sem,an,Nat.reduceAdd,Nat.reduceLT,Nat.reduceLeDiff,Nat.reduceEqDiff,Zn.cs]
   refine cN.ret ?_
   simp -implicitDefEqProofs only[↓reduceIte,go_sem,ab,Nat.reduceAdd,Nat.reduceLT,Nat.reduceLeDiff,Nat.reduceEqDiff,bI,cO]
 ·have hnt:((L.length:Int)=(l.length:Int))=False:=eq_false (by omega)
  rw[if_neg hn]
  by_cases hw:w=0
  ·obtain rfl:=hw0 hw
   refine ag.cC (hint:=fun _=>false) Tryz.func52 (by kernel_rfl) rfl [.cell 6 94,.tmp 7] (by kernel_rfl) (by simp[Tryz.ntmps52]) ?_
   rw[Tryz.ntmps52]
   simp -implicitDefEqProofs only[↓reduceIte,go_sem,Nat.reduceLT,reduceCtorEq]
   refine ae.ok (hs _) ?_
   simp -implicitDefEqProofs only[↓reduceIte,go_sem,Nat.reduceLT,Nat.reduceEqDiff]
   refine ae.ok (hc _) ?_
   simp -implicitDefEqProofs only[↓reduceIte,go_sem,Nat.reduceLT,Nat.reduceEqDiff,reduceCtorEq,List.length_map,h4f,hw]
   refine ae.ok (hbe _) ?_
   simp -implicitDefEqProofs only[↓reduceIte,go_sem,Nat.reduceLT,Nat.reduceEqDiff]
   refine ae.ok (hbo _) ?_
   simp -implicitDefEqProofs only[↓reduceIte,go_sem,Nat.reduceLT,Nat.reduceEqDiff,reduceCtorEq,List.length_map,hnt]
   refine ae.ok (hzo _) ?_
   simp -implicitDefEqProofs only[↓reduceIte,go_sem,an,Nat.reduceAdd,Nat.reduceLT,Nat.reduceLeDiff,Nat.reduceEqDiff,Zn.cs]
   refine cN.ret ?_
   simp -implicitDefEqProofs only[↓reduceIte,go_sem,ab,Nat.reduceAdd,Nat.reduceLT,Nat.reduceLeDiff,Nat.reduceEqDiff,bI,cO,Sg.cs]
  ·obtain rfl:=hw1 hw
   refine ag.cC (hint:=fun _=>false) Tryz.func52 (by kernel_rfl) rfl [.cell 6 94,.tmp 7] (by kernel_rfl) (by simp[Tryz.ntmps52]) ?_
   rw[Tryz.ntmps52]
   simp -implicitDefEqProofs only[↓reduceIte,go_sem,Nat.reduceLT,reduceCtorEq]
   refine ae.ok (hs _) ?_
   simp -implicitDefEqProofs only[↓reduceIte,go_sem,Nat.reduceLT,Nat.reduceEqDiff]
   refine ae.ok (hc _) ?_
   simp -implicitDefEqProofs only[↓reduceIte,go_sem,Nat.reduceLT,Nat.reduceEqDiff,reduceCtorEq,List.length_map,h4f,hw]
   refine ae.ok (hbo _) ?_
   simp -implicitDefEqProofs only[↓reduceIte,go_sem,Nat.reduceLT,Nat.reduceEqDiff,reduceCtorEq,List.length_map,hnt]
   refine ae.ok (hzo _) ?_
   simp -implicitDefEqProofs only[↓reduceIte,go_sem,an,Nat.reduceAdd,Nat.reduceLT,Nat.reduceLeDiff,Nat.reduceEqDiff,Zn.cs]
   refine cN.ret ?_
   simp -implicitDefEqProofs only[↓reduceIte,go_sem,ab,Nat.reduceAdd,Nat.reduceLT,Nat.reduceLeDiff,Nat.reduceEqDiff,bI,cO,Sg.cs]
def Sg.ds(s:Sg):List D:=[iD s.kind,iD s.DA,iD s.gn.rows,iD s.gn.cx,iD s.gn.mn.kind,iD s.gn.mn.i,.v (.string s.gn.mn.s),iD s.gn.mx.kind,iD s.gn.mx.i,.v (.string s.gn.mx.s),.list false (iU s.cx),.list false (dF s.body)]
structure Pj where
 aW:List Int
 key:List Int
 rows:Nat
 cJ:List (List Sg)
deriving DecidableEq
def cl(S:List (List Sg)):List (List D):=S.map fun l=>[.list false (l.map Sg.ds)]
theorem zo(S:List (List Sg)):(cl S).length=S.length:=by simp[cl]
def Pj.ds(p:Pj):List D:=[.list false (ints p.aW),.list false (ints p.key),iD p.rows,.list false (cl p.cJ)]
def Pj.av(p:Pj):AV:= .agg (p.ds.map .d)
def Hi:Pj:=⟨[],[],0,[]⟩
def fF:List AV:=[.d (.v (.slice none 0 0)),.d (.v (.slice none 0 0)),iA 0,.d (.v (.slice none 0 0))]
theorem sn:Sub (.agg fF) Hi.av:= .agg (.cons .nil (.cons .nil (.cons (.refl _) (.cons .nil .nil))))
def iV(c:Int)(R:List (List ak)):List ak:=R.map fun r=>gY r c
def a8(Q:List (List ak))(ks:List Int)(w c:Int):List (Sg×Int):=(sr Q).map fun p=>ka (iV c p) (ks.getD c.toNat 0) w
def kq(l:List Int):Int:=(l.find? fun e=>decide (e≠0)).getD 0
def uQ(ks cs key:List Int):Prop:=cs.length=0∨8<key.length∨dD cs ks.length=false∨dD key ks.length=false∨¬cs.Nodup
instance (ks cs key:List Int):Decidable (uQ ks cs key):=by unfold uQ;infer_instance
def jw(Q:List (List ak))(ks cs:List Int)(w:Int):Int:=kq (cs.flatMap fun c=>(a8 Q ks w c).map (·.2))
def ez(Q:List (List ak))(ks cs:List Int)(w:Int):List (List Sg):=cs.map fun c=>(a8 Q ks w c).map (·.1)
def eS(R:List (List ak))(ks cs key:List Int)(w:Int):Pj×Int:=
 if cX R ks≠0 then(Hi,cX R ks)
 else if uQ ks cs key then(Hi,1)
 else if jw (nx R key) ks cs w≠0 then(Hi,jw (nx R key) ks cs w)
 else(⟨cs,key,R.length,ez (nx R key) ks cs w⟩,0)
theorem vE{l m:List Int}{e:Int}(h:∀x∈l,x=0)(he:e≠0):kq (l++e::m)=e:=by
 unfold kq
 rw[List.find?_append,List.find?_eq_none.2 (fun x hx=>by simp[h x hx])]
 simp[he]
theorem tp{l:List Int}(h:∀x∈l,x=0):kq l=0:=by
 unfold kq
 rw[List.find?_eq_none.2 (fun x hx=>by simp[h x hx])]
 rfl
theorem lg(l:List Int)(H:aa)(hl:l.length≤1000000000000):ag Tryz.prog 45 [.d (.list true (ints l))] H (.ok (.d (.list false (ints l)))) H:=by
 refine ag.aj (hint:=(fun _=>false)) Tryz.func45 (by kernel_rfl) rfl [2] (by kernel_rfl) (by decide) (by simp[Tryz.ntmps45]) ?_
 rw[Tryz.ntmps45]
 simp -implicitDefEqProofs only[↓reduceIte,go_sem,Nat.reduceLT,Nat.reduceEqDiff,reduceCtorEq,nH,ay]
 refine⟨by omega,by omega,au.ret ?_⟩
 simp -implicitDefEqProofs only[↓reduceIte,go_sem,Nat.reduceLT,cU,ay]
theorem mr(l:List Int)(n1:Bool)(H:aa)(hl:l.length≤1000000000000):ag Tryz.prog 45 [.d (.list n1 (ints l))] H (.ok (.d (.list false (ints l)))) H:=by
 cases n1 with
 |true=>exact lg l H hl
 |false=>
  cases l with
  |cons a l=>exact dI _ false H (by simp) hl
  |nil=>
   refine ag.oA [] [] ?_ (lg [] H (by simp))
   have:=(cE H).F8 .nil
   exact this
theorem tH(R:List (List ak))(ks cs key:List Int)(w:Int)(n0 n1 n2 n3:Bool)(H:aa)(hR:R.length≤1000000000)(hr:∀r∈R,r.length≤1000000000)(hk:ks.length≤100000000000000)(he:cX R ks≠0):
  ag Tryz.prog 26 [.d (.list n0 (bC R)),.d (.list n1 (ints ks)),.d (.list n2 (ints cs)),.d (.list n3 (ints key)),iA w] H (.ok (.aZ [.agg fF,iA (cX R ks)])) H:=by
 have hc:=fun H=>jd R ks n0 n1 H (by omega) (fun r h=>by have:=hr r h;omega) (by omega)
 generalize cX R ks=e at*
 refine ag.cC (hint:=fun _=>false) Tryz.func26 (by kernel_rfl) rfl [.cell 10 49,.cell 11 62] (by kernel_rfl) (by simp[Tryz.ntmps26]) ?_
 rw[Tryz.ntmps26]
 simp -implicitDefEqProofs only[↓reduceIte,go_sem,ab,Nat.reduceAdd,Nat.reduceLT,Nat.reduceEqDiff,reduceCtorEq]
 refine ae.ok (hc _) ?_
 simp -implicitDefEqProofs only[↓reduceIte,go_sem,an,Nat.reduceAdd,Nat.reduceLT,Nat.reduceEqDiff,he]
 refine cN.ret ?_
 simp -implicitDefEqProofs only[↓reduceIte,go_sem,ab,Nat.reduceAdd,Nat.reduceLT,Nat.reduceLeDiff,Nat.reduceEqDiff,reduceCtorEq,bI,cO,fF]
theorem tc(R:List (List ak))(ks cs key:List Int)(w:Int)(n0 n1 n2 n3:Bool)(H:aa)(hR:R.length≤1000000000)(hr:∀r∈R,r.length≤1000000000)(hk:ks.length≤1000000000)(hcl:cs.length≤1000000000)(hkl:key.length≤1000000000)(he:cX R ks=0)(hb:uQ ks cs key):
  ag Tryz.prog 26 [.d (.list n0 (bC R)),.d (.list n1 (ints ks)),.d (.list n2 (ints cs)),.d (.list n3 (ints key)),iA w] H (.ok (.aZ [.agg fF,iA 1])) H:=by
 have hc:=fun H=>jd R ks n0 n1 H (by omega) (fun r h=>by have:=hr r h;omega) (by omega)
 have hw1:=fun H=>ga cs n2 ks.length H (by omega)
 have hw2:=fun H=>ga key n3 ks.length H (by omega)
 have ho:=fun H=>CI.ql n2 cs H hcl
 unfold uQ at hb
 generalize dD cs ks.length=b1 at*
 generalize dD key ks.length=b2 at*
 have hcn:decide cs.Nodup=false↔¬cs.Nodup:=by simp
 rw[←hcn]at hb
 generalize decide cs.Nodup=b3 at*
 rw[he]at hc
 refine ag.cC (hint:=fun _=>false) Tryz.func26 (by kernel_rfl) rfl [.cell 10 49,.cell 11 62] (by kernel_rfl) (by simp[Tryz.ntmps26]) ?_
 rw[Tryz.ntmps26]
 simp -implicitDefEqProofs only[↓reduceIte,go_sem,ab,Nat.reduceAdd,Nat.reduceLT,Nat.reduceEqDiff,reduceCtorEq]
 refine ae.ok (hc _) ?_
 by_cases h1:cs.length=0
 case' pos=>simp -implicitDefEqProofs only[↓reduceIte,go_sem,an,Nat.reduceAdd,Nat.reduceLT,Nat.reduceEqDiff,ay,h1]
 case' neg=>
  by_cases h2:8<key.length
  case' pos=>simp -implicitDefEqProofs only[↓reduceIte,go_sem,an,Nat.reduceAdd,Nat.reduceLT,Nat.reduceEqDiff,reduceCtorEq,ay,show ¬((cs.length:Int)=0) by omega,show(8:Int)<key.length by omega]
  case' neg=>
   simp -implicitDefEqProofs only[↓reduceIte,go_sem,ab,Nat.reduceLT,Nat.reduceEqDiff,reduceCtorEq,ay,show ¬((cs.length:Int)=0) by omega,show ¬(8:Int)<key.length by omega]
   refine ae.ok (hw1 _) ?_
   cases b1
   case' false=>simp -implicitDefEqProofs only[↓reduceIte,go_sem,an,Nat.reduceAdd,Nat.reduceLT,Nat.reduceEqDiff,reduceCtorEq]
   case' true=>
    simp -implicitDefEqProofs only[↓reduceIte,go_sem,ab,Nat.reduceLT,Nat.reduceEqDiff,reduceCtorEq,ay]
    refine ae.ok (hw2 _) ?_
    cases b2
    case' false=>simp -implicitDefEqProofs only[↓reduceIte,go_sem,an,Nat.reduceAdd,Nat.reduceLT,Nat.reduceEqDiff,reduceCtorEq]
    case' true=>
     simp -implicitDefEqProofs only[↓reduceIte,go_sem,Nat.reduceLT,Nat.reduceEqDiff,reduceCtorEq]
     refine ae.ok (ho _) ?_
     cases b3
     case' false=>simp -implicitDefEqProofs only[↓reduceIte,go_sem,an,Nat.reduceAdd,Nat.reduceLT,Nat.reduceEqDiff,reduceCtorEq]
     case true=>rcases hb with h|h|h|h|h<;>first|exact absurd h h1|exact absurd h h2|cases h
 all_goals
  refine cN.ret ?_
  simp -implicitDefEqProofs only[↓reduceIte,go_sem,ab,Nat.reduceAdd,Nat.reduceLT,Nat.reduceLeDiff,Nat.reduceEqDiff,reduceCtorEq,bI,cO,fF]
end Go.Proofs.YtfklokhopcmloaaGreat
namespace Go.Proofs.YtfklokhopcmloaaGreatAw
open Go.RowKit
section
variable (P:Program) (hint:Nat→Bool) (n:Nat) (ops:Array Oper) (a p:Nat) (bx:az) (B:aa)
def eU(o:Oper)(H:aa):Prop:=∃e z k b e',o.op= .alloc e∧o.guard=none∧TI P e=some (z,k,b)∧(0<k∧z.cells.size=k∧z.cells.all Value.oneCell'=true)∧hintOf hint o.dst=true∧bx= .box e k 1 1 (bp z.cells)∧H[p]?=some (.arr e' k 0 [])
def aU(Q:aJ):Nat→List (Option Bool)→List Oper→(Nat→AV)→aa→Prop
 |_,[],l,s,H=>aG P hint n ops Q l s H
 |_,_::_,[],s,H=>aG P hint n ops Q [] s H
 |i,b::bs,o::rest,s,H=>if i=a then eU P hint p bx o H∧aU Q (i+1) bs rest (bf n s o.dst (.ptr p 1 0 0)) (H.set p bx)else match b with
  |some false=>cw P hint n ops (fun _ _ _=>False) o (fun s' H'=>H'=H∧aU Q (i+1) bs rest s' H') s H
  |none=>cw P hint n ops (fun _ _ _=>False) o (fun s' H'=>H'=B∧aU Q (i+1) bs rest s' H) s B
  |some true=>o.guard=none∧(if i<a then aA P hint s H o (fun r H'=>aA P hint s (H.set p bx) o (fun r' H''=>r'=r∧H''=H'.set p bx∧H'[p]?=H[p]?∧Ext B H'∧aU Q (i+1) bs rest (bf n s o.dst r) H') (fun _ _=>False)) (fun _ _=>False)
    else aA P hint s H o (fun r H'=>Ext B H'∧aU Q (i+1) bs rest (bf n s o.dst r) H') (fun _ _=>False))
end
section
variable {P:Program} {hint:Nat→Bool} {n:Nat} {ops:Array Oper} {Q:aJ} {a p:Nat} {bx:az} {B:aa}
def uc(P:Program)(hint:Nat→Bool)(n:Nat)(ops:Array Oper)(a p:Nat)(bx:az)(B:aa)(b:Option Bool)(i:Nat)(o:Oper)(s:Nat→AV)(r:AV)(H H':aa):Prop:=
 if i=a then eU P hint p bx o H∧r= .ptr p 1 0 0∧H'=H.set p bx else match b with
 |some false=>bK P hint n ops H s o r H∧H'=H
 |none=>bK P hint n ops B s o r B∧H'=H
 |some true=>bK P hint n ops H s o r H'∧Ext B H'∧(i<a→bK P hint n ops (H.set p bx) s o r (H'.set p bx)∧H'[p]?=H[p]?)
theorem im{H H':aa}{s:Nat→AV}{o:Oper}{r:AV}(hg:o.guard=none)(h:∀K KP,K r H'→aA P hint s H o K KP):bK P hint n ops H s o r H':=by
 unfold bK
 rw[hg]
 exact h
theorem j4(hdt:∀(i:Nat) (o:Oper),ops[i]?=some o→js hint o.op=true)(s0:Nat→AV):∀(bs:List (Option Bool)) (k:Nat) (rs0:Nat→AV) (hp0:Nat→aa),k+bs.length≤ops.size→aU P hint n ops a p bx B Q k bs (ops.toList.drop k) (aX n ops s0 rs0 k) (hp0 k)→
  ∃(rs:Nat→AV) (hp:Nat→aa),(∀i,i<k→rs i=rs0 i)∧(∀i,i≤k→hp i=hp0 i)∧
   (∀i o b,k≤i→i<k+bs.length→ops[i]?=some o→bs[i-k]?=some b→uc P hint n ops a p bx B b i o (aX n ops s0 rs i) (rs i) (hp i) (hp (i+1)))∧
   aG P hint n ops Q (ops.toList.drop (k+bs.length)) (aX n ops s0 rs (k+bs.length)) (hp (k+bs.length))
 |[],k,rs0,hp0,hk,h=>⟨rs0,hp0,fun _ _=>rfl,fun _ _=>rfl,fun i o b h1 h2=>by simp at h2;omega,by
   have h:aG P hint n ops Q (ops.toList.drop k) (aX n ops s0 rs0 k) (hp0 k):=by
    cases hd:ops.toList.drop k<;>(rw[hd]at h;exact h)
   exact h⟩
 |b::bs,k,rs0,hp0,hk,h=>by
  simp only[List.length_cons]at hk
  have hlt:k<ops.size:=by omega
  have hget:ops[k]?=some ops[k]:=by simp[hlt]
  have hd:ops.toList.drop k=ops[k]::ops.toList.drop (k+1):=by
   rw[List.drop_eq_getElem_cons (by simpa using hlt)];simp
  rw[hd]at h
  have hdst:aS ops k=(ops[k]).dst:=by simp[aS,hget]
  have step:∃r H',uc P hint n ops a p bx B b k ops[k] (aX n ops s0 rs0 k) r (hp0 k) H'∧aU P hint n ops a p bx B Q (k+1) bs (ops.toList.drop (k+1)) (bf n (aX n ops s0 rs0 k) (ops[k]).dst r) H':=by
   unfold uc
   unfold aU at h
   by_cases hka:k=a
   ·rw[if_pos hka]at h
    refine⟨.ptr p 1 0 0,(hp0 k).set p bx,?_,h.2⟩
    rw[if_pos hka]
    exact⟨h.1,rfl,rfl⟩
   ·rw[if_neg hka]at h
    simp only[if_neg hka]
    match b,h with
    |some false,h=>
     obtain⟨r,H',h1,rfl,h3⟩:=iJ (hdt k _ hget) h
     exact⟨r,_,⟨h1,rfl⟩,h3⟩
    |none,h=>
     obtain⟨r,H',h1,rfl,h3⟩:=iJ (hdt k _ hget) h
     exact⟨r,_,⟨h1,rfl⟩,h3⟩
    |some true,⟨hg,h⟩=>
     by_cases hlta:k<a
     ·rw[if_pos hlta]at h
      obtain⟨r,H',h1,h2⟩:=ef (hdt k _ hget) h
      obtain⟨r',H'',⟨rfl,rfl,h3,h4,h5⟩,h6⟩:=ef (hdt k _ hget) h1
      exact⟨r',H',⟨im hg h2,h4,fun _=>⟨im hg h6,h3⟩⟩,h5⟩
     ·rw[if_neg hlta]at h
      obtain⟨r,H',⟨h1,h3⟩,h2⟩:=ef (hdt k _ hget) h
      exact⟨r,H',⟨im hg h2,h1,fun hh=>absurd hh hlta⟩,h3⟩
  obtain⟨r,H',h1,h4⟩:=step
  let rs1:Nat→AV:=fun i=>if i=k then r else rs0 i
  let hp1:Nat→aa:=fun i=>if i=k+1 then H' else hp0 i
  have e1:rs1 k=r:=if_pos rfl
  have e2:hp1 (k+1)=H':=if_pos rfl
  have hst:∀(rs:Nat→AV) i,i≤k→(∀j,j<i→rs j=rs0 j)→aX n ops s0 rs i=aX n ops s0 rs0 i:=by
   intro rs i
   induction i with
   |zero=>intros;rfl
   |succ i ih=>
    intro hi hr
    simp only[aX,ih (by omega) fun j hj=>hr j (by omega),hr i (by omega)]
  have h5:aU P hint n ops a p bx B Q (k+1) bs (ops.toList.drop (k+1)) (aX n ops s0 rs1 (k+1)) (hp1 (k+1)):=by
   rw[e2]
   simp only[aX,e1,hdst]
   rw[hst rs1 k (Nat.le_refl _) fun j hj=>if_neg (by omega)]
   exact h4
  obtain⟨rs,hp,g1,g2,g3,g4⟩:=j4 hdt s0 bs (k+1) rs1 hp1 (by omega) h5
  have f1:∀i,i<k→rs i=rs0 i:=fun i hi=>by rw[g1 i (by omega)];exact if_neg (by omega)
  have f2:∀i,i≤k→hp i=hp0 i:=fun i hi=>by rw[g2 i (by omega)];exact if_neg (by omega)
  have f3:rs k=r:=by rw[g1 k (by omega)];exact e1
  have f4:hp (k+1)=H':=by rw[g2 (k+1) (by omega)];exact e2
  refine⟨rs,hp,f1,f2,fun i o b' hi hi2 ho hb=>?_,by rw[List.length_cons,show k+(bs.length+1)=k+1+bs.length from by omega];exact g4⟩
  rcases Nat.lt_or_ge k i with hki|hki
  ·refine g3 i o b' hki (by simp only[List.length_cons]at hi2;omega) ho ?_
   rwa[show i-k=(i-(k+1))+1 from by omega,List.getElem?_cons_succ]at hb
  ·obtain rfl:i=k:=by omega
   rw[hget]at ho
   cases ho
   rw[Nat.sub_self,List.getElem?_cons_zero]at hb
   cases hb
   rw[f2 i (Nat.le_refl _),f3,f4,hst rs i (Nat.le_refl _) fun j hj=>f1 j hj]
   exact h1
theorem eU.step{o:Oper}{H:aa}{s:Nat→AV}(h:eU P hint p bx o H):bK P hint n ops H s o (.ptr p 1 0 0) (H.set p bx):=by
 obtain⟨e,z,k,b,e',h1,h2,h3,h4,h5,h6,h7⟩:=h
 refine im h2 fun K KP hk=>?_
 obtain⟨d,op,ty,ps,af,g⟩:=o
 simp only at h1 h2 h5
 subst h1 h2
 rw[sL,h3]
 refine⟨by rw[r3 h3];exact h4,?_⟩
 rw[h5]
 exact⟨p,e',h7,by rw[←h6];exact hk⟩
end
def qI(hint:Nat→Bool)(ops:Array Oper)(bs:List (Option Bool))(a:Nat):Bool:=decide (a<bs.length)&&(List.range bs.length).all fun i=>i==a||match bs[i]?,ops[i]? with
 |some (some false),some o=>iE hint false o
 |some none,some o=>iE hint true o
 |some (some true),some _=>(decide (i<a)||b6 ops 12 i a)&&(List.range i).all fun c=>c==a||bs[c]?==some (some false)||bs[c]?==some none||b6 ops 12 i c
 |_,_=>false
section
variable {P:Program} {hint:Nat→Bool} {n:Nat} {ops:Array Oper} {Q:aJ}
theorem qn(bs:List (Option Bool))(a p:Nat)(bx:az)(B:aa){H0 H:aa}{id:Nat}{s:Nat→AV}(hm:P.follows .mixedOrders=true)(hc:dh hint ops=true)(ht:dk ops bs.length=true)(hx:qI hint ops bs a=true)(hB:Ext B H)(hBp:∀o,B[p]?=some o→o.live=false)
  (h:aU P hint n ops a p bx B Q 0 bs ops.toList s H):cg P hint n H0 (.region id ops true) Q s H:=by
 obtain⟨hms,htl⟩:=dU ht
 refine⟨hm,?_⟩
 obtain⟨rs,w,_,g2,g3,g4⟩:=j4 (bW hc).Gv s bs 0 (fun _=> .top) (fun _=>H) (by omega) h
 have g20:w 0=H:=g2 0 (Nat.le_refl _)
 simp only[Nat.zero_add,Nat.sub_zero,Nat.zero_le,true_implies]at g3 g4
 unfold qI at hx
 rw[Bool.and_eq_true,List.all_eq_true]at hx
 obtain⟨ha,hx⟩:=hx
 have ha:a<bs.length:=by simpa using ha
 have hget:∀i,i<bs.length→∃o,ops[i]?=some o:=fun i hi=>⟨ops[i]'(by omega),by simp[show i<ops.size by omega]⟩
 have hbs:∀i (hi:i<bs.length),bs[i]?=some bs[i]:=fun i hi=>List.getElem?_eq_getElem hi
 let T:Nat→Bool:=fun i=>i !=a&&bs[i]?==some (some true)
 have TT:∀i,T i=true→i≠a∧bs[i]?=some (some true):=fun i h=>by
  have h:(i !=a&&bs[i]?==some (some true))=true:=h
  simpa using h
 have TF:∀i,i<bs.length→i≠a→T i=false→bs[i]?=some (some false)∨bs[i]?=some none:=fun i hi hia h=>by
  have h:(i !=a&&bs[i]?==some (some true))=false:=h
  rw[hbs i hi]at h⊢
  rcases hb:bs[i]with _|_|_
  ·exact .inr rfl
  ·exact .inl rfl
  ·rw[hb]at h;simp[hia]at h
 have say:∀i o,i<bs.length→ops[i]?=some o→uc P hint n ops a p bx B bs[i]! i o (aX n ops s rs i) (rs i) (w i) (w (i+1)):=fun i o hi ho=>g3 i o _ hi ho (by rw[hbs i hi];simp[hi])
 have sayT:∀i o,i<bs.length→ops[i]?=some o→T i=true→bK P hint n ops (w i) (aX n ops s rs i) o (rs i) (w (i+1))∧Ext B (w (i+1))∧(i<a→bK P hint n ops ((w i).set p bx) (aX n ops s rs i) o (rs i) ((w (i+1)).set p bx)∧(w (i+1))[p]?=(w i)[p]?):=by
  intro i o hi ho hT
  obtain⟨h1,h2⟩:=TT i hT
  have:=g3 i o _ hi ho h2
  unfold uc at this
  rwa[if_neg h1]at this
 have sayF:∀i o,i<bs.length→ops[i]?=some o→bs[i]?=some (some false)→i≠a→bK P hint n ops (w i) (aX n ops s rs i) o (rs i) (w i)∧w (i+1)=w i:=by
  intro i o hi ho h2 h1
  have:=g3 i o _ hi ho h2
  unfold uc at this
  rwa[if_neg h1]at this
 have sayN:∀i o,i<bs.length→ops[i]?=some o→bs[i]?=some none→i≠a→bK P hint n ops B (aX n ops s rs i) o (rs i) B∧w (i+1)=w i:=by
  intro i o hi ho h2 h1
  have:=g3 i o _ hi ho h2
  unfold uc at this
  rwa[if_neg h1]at this
 obtain⟨oa,hoa⟩:=hget a ha
 have sayA:eU P hint p bx oa (w a)∧rs a= .ptr p 1 0 0∧w (a+1)=(w a).set p bx:=by
  have:=g3 a oa _ ha hoa (hbs a ha)
  unfold uc at this
  rwa[if_pos rfl]at this
 have stay:∀i,i<bs.length→i≠a→T i=false→w (i+1)=w i:=by
  intro i hi hia hT
  obtain⟨o,ho⟩:=hget i hi
  rcases TF i hi hia hT with h|h
  ·exact(sayF i o hi ho h hia).2
  ·exact(sayN i o hi ho h hia).2
 have hext:∀j,j≤bs.length→Ext B (w j)∧Ext B ((w j).set p bx):=by
  have key:∀H:aa,Ext B H→Ext B (H.set p bx):=fun H hE i o ho hl=>by
   by_cases e:i=p
   ·subst e;rw[hBp o ho]at hl;cases hl
   ·rw[List.getElem?_set_ne (Ne.symm e)];exact hE i o ho hl
  intro j
  induction j with
  |zero=>intro _;rw[g20];exact⟨hB,key _ hB⟩
  |succ j ih=>
   intro hj
   obtain⟨o,ho⟩:=hget j (by omega)
   by_cases hja:j=a
   ·subst hja
    rw[sayA.2.2]
    exact⟨(ih (by omega)).2,key _ (ih (by omega)).2⟩
   ·cases hT:T j with
    |true=>have:=(sayT j o (by omega) ho hT).2.1;exact⟨this,key _ this⟩
    |false=>rw[stay j (by omega) hja hT];exact ih (by omega)
 let u:Nat→aa:=fun i=>if i≤a then(w i).set p bx else w i
 have u1:∀i,i≤a→u i=(w i).set p bx:=fun i hi=>if_pos hi
 have u2:∀i,a<i→u i=w i:=fun i hi=>if_neg (by omega)
 have ustay:∀i,i<bs.length→T i=false→u (i+1)=u i:=by
  intro i hi hT
  rcases Nat.lt_trichotomy i a with h|h|h
  ·rw[u1 i (by omega),u1 (i+1) (by omega),stay i hi (by omega) hT]
  ·subst h;rw[u1 i (Nat.le_refl _),u2 (i+1) (by omega),sayA.2.2]
  ·rw[u2 i h,u2 (i+1) (by omega),stay i hi (by omega) hT]
 have chain:∀(f:Nat→aa) (N:Nat),(∀i,i<N→T i=false→f (i+1)=f i)→∀q i,q≤N→i≤N→(∀c,c<N→T c=true→(c<q↔c<i))→f q=f i:=by
  intro f N hf
  have up:∀d q,q+d≤N→(∀c,c<N→T c=true→(c<q↔c<q+d))→f (q+d)=f q:=by
   intro d
   induction d with
   |zero=>intros;rfl
   |succ d ihd=>
    intro q hq hcc
    have h1:T (q+d)=false:=by
     cases h:T (q+d)with
     |false=>rfl
     |true=>have:=(hcc (q+d) (by omega) h).2 (by omega);omega
    rw[←Nat.add_assoc,hf (q+d) (by omega) h1]
    exact ihd q (by omega) fun c hcm hct=>⟨fun h=>by omega,fun h=>(hcc c hcm hct).2 (by omega)⟩
  intro q i hq hi hcc
  rcases Nat.le_total q i with h|h
  ·obtain⟨d,rfl⟩:=Nat.exists_eq_add_of_le h
   exact(up d q hi hcc).symm
  ·obtain⟨d,rfl⟩:=Nat.exists_eq_add_of_le h
   exact up d i hq fun c hcm hct=>(hcc c hcm hct).symm
 have hsu:=chain u bs.length ustay
 have hsw:=chain w a fun i hi hT=>stay i (by omega) (by omega) hT
 have hole:∀j,j≤a→(w j)[p]?=(w 0)[p]?:=by
  intro j
  induction j with
  |zero=>intro _;rfl
  |succ j ih=>
   intro hj
   obtain⟨o,ho⟩:=hget j (by omega)
   cases hT:T j with
   |true=>rw[((sayT j o (by omega) ho hT).2.2 (by omega)).2];exact ih (by omega)
   |false=>rw[stay j (by omega) (by omega) hT];exact ih (by omega)
 have chk:∀i o,i<bs.length→ops[i]?=some o→T i=true→(i<a∨b6 ops 12 i a=true)∧∀c,c<i→T c=true→b6 ops 12 i c=true:=by
  intro i o hi ho hT
  obtain⟨h1,h2⟩:=TT i hT
  have:=hx i (List.mem_range.2 hi)
  rw[h2,ho]at this
  simp only[Bool.or_eq_true,beq_iff_eq,h1,false_or,Bool.and_eq_true,decide_eq_true_eq,List.all_eq_true]at this
  refine⟨this.1,fun c hci hct=>?_⟩
  obtain⟨h3,h4⟩:=TT c hct
  have:=this.2 c (List.mem_range.2 hci)
  rw[h4]at this
  simpa[h3]using this
 refine nW (bW hc) bs.length hms htl s rs (fun L G=>∃q,q≤bs.length∧(∀c,c<bs.length→T c=true→(L c=true↔c<q))∧((L a=true∧G=u q)∨(L a=false∧q≤a∧G=w q))) ?_ ?_ ?_ ops.size (Array.replicate ops.size false) s H (by simp) ?_ ?_ ?_ ?_ ?_ ⟨0,Nat.zero_le _,fun c hcm hct=>?_,.inr ⟨?_,Nat.zero_le _,g20.symm⟩⟩
 ·rintro L L' G hL ⟨q,h1,h2,h3⟩
  exact⟨q,h1,fun c hcm hct=>by rw[←hL c hcm];exact h2 c hcm hct,by rw[←hL a ha];exact h3⟩
 ·rintro L G i o ⟨q,hqm,hql,hG⟩ him hgo hun hcl hbi
  have hnew:∀c,c≠i→(if c=i then true else L c)=L c:=fun c hc=>if_neg hc
  by_cases hia:i=a
  ·subst hia
   rcases hG with⟨hL,_⟩|⟨_,hqa,rfl⟩
   ·rw[hL]at hun;cases hun
   have e:o=oa:=Option.some.inj (hgo.symm.trans hoa)
   subst e
   obtain⟨e,z,k,b,e',k1,k2,k3,k4,k5,k6,k7⟩:=sayA.1
   have hA:eU P hint p bx o (w q):=⟨e,z,k,b,e',k1,k2,k3,k4,k5,k6,by rw[hole q hqa,←hole i (Nat.le_refl _)];exact k7⟩
   refine⟨_,by rw[sayA.2.1];exact hA.step,q,hqm,fun c hcm hct=>?_,.inl ⟨by simp,(u1 q hqa).symm⟩⟩
   show(if c=i then true else L c)=true↔c<q
   rw[hnew c (TT c hct).1]
   exact hql c hcm hct
  ·have hLa:(if a=i then true else L a)=L a:=if_neg (Ne.symm hia)
   cases hT:T i with
   |false=>
    have hS:bK P hint n ops G (aX n ops s rs i) o (rs i) G:=by
     have hfl:=hx i (List.mem_range.2 him)
     have hEx:Ext B G:=by
      rcases hG with⟨_,rfl⟩|⟨_,_,rfl⟩
      ·rcases Nat.lt_or_ge a q with h|h
       ·rw[u2 q h];exact(hext q hqm).1
       ·rw[u1 q h];exact(hext q hqm).2
      ·exact(hext q hqm).1
     rcases TF i him hia hT with hk|hk
     ·rw[hk,hgo]at hfl
      simp only[Bool.or_eq_true,beq_iff_eq,hia,false_or]at hfl
      exact dj hfl (fun hf=>by cases hf) (sayF i o him hgo hk hia).1
     ·rw[hk,hgo]at hfl
      simp only[Bool.or_eq_true,beq_iff_eq,hia,false_or]at hfl
      exact dj (first:=true) hfl (fun _=>hEx) (sayN i o him hgo hk hia).1
    refine⟨G,hS,q,hqm,fun c hcm hct=>?_,by simp only[hLa];exact hG⟩
    show(if c=i then true else L c)=true↔c<q
    rw[hnew c (by intro e;rw[e,hT]at hct;cases hct)]
    exact hql c hcm hct
   |true=>
    obtain⟨hra,hrc⟩:=chk i o him hgo hT
    have breach:∀c o',ops[c]?=some o'→(∀j,aI o' j=true→L j=true)→∀i',b6 ops 12 c i'=true→L i'=true:=fun c o' hoc hb i' hr=>et hcl 12 c o' hoc hb i' hr
    have hbef:∀c,c<bs.length→T c=true→(L c=true↔c<i):=by
     intro c hcm hct
     refine⟨fun hl=>?_,fun hlt=>breach i o hgo hbi c (hrc c hlt hct)⟩
     rcases Nat.lt_trichotomy c i with h|h|h
     ·exact h
     ·subst h;rw[hun]at hl;cases hl
     ·exfalso
      obtain⟨oc,hgc⟩:=hget c hcm
      have:=breach c oc hgc (fun j hj=>hcl c oc j hgc hl hj) i ((chk c oc hcm hgc hct).2 i h hT)
      rw[hun]at this
      cases this
    have heq:∀c,c<bs.length→T c=true→(c<q↔c<i):=fun c hcm hct=>(hql c hcm hct).symm.trans (hbef c hcm hct)
    have hq':∀c,c<bs.length→T c=true→((if c=i then true else L c)=true↔c<i+1):=fun c hcm hct=>by
     by_cases e:c=i
     ·subst e;simp
     ·rw[if_neg e]
      exact(hbef c hcm hct).trans ⟨fun h=>by omega,fun h=>by omega⟩
    obtain⟨s1,_,s3⟩:=sayT i o him hgo hT
    rcases hG with⟨hL,rfl⟩|⟨hL,hqa,rfl⟩
    ·have hu:=hsu q i hqm (by omega) heq
     rw[hu]
     rcases Nat.lt_or_ge i a with h|h
     ·refine⟨u (i+1),by rw[u1 i (by omega),u1 (i+1) (by omega)];exact(s3 h).1,i+1,by omega,hq',.inl ⟨by show(if a=i then true else L a)=true;rw[hLa];exact hL,rfl⟩⟩
     ·refine⟨u (i+1),by rw[u2 i (by omega),u2 (i+1) (by omega)];exact s1,i+1,by omega,hq',.inl ⟨by show(if a=i then true else L a)=true;rw[hLa];exact hL,rfl⟩⟩
    ·have hilt:i<a:=by
      rcases hra with h|h
      ·exact h
      ·have:=breach i o hgo hbi a h
       rw[hL]at this;cases this
     have hw:=hsw q i hqa (by omega) fun c hcm hct=>heq c (by omega) hct
     rw[hw]
     exact⟨_,s1,i+1,by omega,hq',.inr ⟨by show(if a=i then true else L a)=false;rw[hLa];exact hL,by omega,rfl⟩⟩
 ·rintro L G hall ⟨q,hqm,hql,hG⟩
  rcases hG with⟨_,rfl⟩|⟨hL,_⟩
  ·rw[hsu q bs.length hqm (Nat.le_refl _) fun c hcm hct=>⟨fun _=>hcm,fun _=>(hql c hcm hct).1 (hall c hcm)⟩,u2 _ ha]
   exact g4
  ·rw[hall a ha]at hL;cases hL
 ·exact Nat.le_trans List.countP_le_length (by simp)
 ·intro t j hj
  have hjl:=dx hj
  rw[if_neg (by simp[Array.getD,hjl])]
 ·intro t _;rfl
 ·intro j oj i hoj hl
  have hjl:=(Array.getElem?_eq_some_iff.1 hoj).1
  simp[Array.getD,hjl]at hl
 ·intro i hi hi2
  simp[Array.getD,hi2]
 ·have:c<ops.size:=by omega
  simp[Array.getD,this]
 ·simp[Array.getD,show a<ops.size by omega]
end
section
variable (P:Program) (hint:Nat→Bool) (n:Nat) (ops:Array Oper) (a p:Nat) (bx:az) (B:aa) (Q:aJ) (i:Nat) (bs:List (Option Bool)) (rest:List Oper) (s:Nat→AV) (H:aa)
def rO(d:Option Tmp)(H0:aa):AV→aa→Prop:=fun r H'=>H'=B∧aU P hint n ops a p bx B Q (i+1) bs rest (bf n s d r) H0
def qN(d:Option Tmp)(H0:aa):AV→aa→Prop:=fun r H'=>H'=H0∧aU P hint n ops a p bx B Q (i+1) bs rest (bf n s d r) H'
def mf(d:Option Tmp)(H0:aa)(r:AV)(H':aa):AV→aa→Prop:=fun r' H''=>r'=r∧H''=H'.set p bx∧H'[p]?=H0[p]?∧Ext B H'∧aU P hint n ops a p bx B Q (i+1) bs rest (bf n s d r) H'
def l8(o:Oper)(H0:aa):AV→aa→Prop:=fun r H'=>if i<a then aA P hint s (H0.set p bx) o (mf P hint n ops a p bx B Q i bs rest s o.dst H0 r H') Ak else Ext B H'∧aU P hint n ops a p bx B Q (i+1) bs rest (bf n s o.dst r) H'
theorem zC(d:Option Tmp)(H0:aa)(r:AV):rO P hint n ops a p bx B Q i bs rest s d H0 r H=(H=B∧aU P hint n ops a p bx B Q (i+1) bs rest (bf n s d r) H0):=rfl
theorem yl(d:Option Tmp)(H0:aa)(r:AV):qN P hint n ops a p bx B Q i bs rest s d H0 r H=(H=H0∧aU P hint n ops a p bx B Q (i+1) bs rest (bf n s d r) H):=rfl
theorem yj(d:Option Tmp)(H0:aa)(r:AV)(H':aa)(r':AV):mf P hint n ops a p bx B Q i bs rest s d H0 r H' r' H=(r'=r∧H=H'.set p bx∧H'[p]?=H0[p]?∧Ext B H'∧aU P hint n ops a p bx B Q (i+1) bs rest (bf n s d r) H'):=rfl
theorem zT(d:Option Tmp)(op:Op)(ty:TypeId)(ps:String)(af:Array Edge)(g:Option (Nat×Bool))(H0:aa)(r:AV):l8 P hint n ops a p bx B Q i bs rest s ⟨d,op,ty,ps,af,g⟩ H0 r H=(if i<a then aA P hint s (H0.set p bx) ⟨d,op,ty,ps,af,g⟩ (mf P hint n ops a p bx B Q i bs rest s d H0 r H) Ak else Ext B H∧aU P hint n ops a p bx B Q (i+1) bs rest (bf n s d r) H):=rfl
theorem uT(l:List Oper):aU P hint n ops a p bx B Q i [] l s H=aG P hint n ops Q l s H:=by cases l<;>rfl
theorem vK(l:List Oper):aU P hint n ops a p bx B Q i bs l.toArray.toList s H=aU P hint n ops a p bx B Q i bs l s H:=rfl
theorem zh(d:Option Tmp)(op:Op)(ty:TypeId)(ps:String)(af:Array Edge):aU P hint n ops a p bx B Q i (some false::bs) (⟨d,op,ty,ps,af,none⟩::rest) s H=if i=a then eU P hint p bx ⟨d,op,ty,ps,af,none⟩ H∧aU P hint n ops a p bx B Q (i+1) bs rest (bf n s d (.ptr p 1 0 0)) (H.set p bx)else aA P hint s H ⟨d,op,ty,ps,af,none⟩ (qN P hint n ops a p bx B Q i bs rest s d H) Ak:=by
 simp only[aU,cw]<;>rfl
theorem zp(d:Option Tmp)(op:Op)(ty:TypeId)(ps:String)(af:Array Edge):aU P hint n ops a p bx B Q i (none::bs) (⟨d,op,ty,ps,af,none⟩::rest) s H=if i=a then eU P hint p bx ⟨d,op,ty,ps,af,none⟩ H∧aU P hint n ops a p bx B Q (i+1) bs rest (bf n s d (.ptr p 1 0 0)) (H.set p bx)else aA P hint s B ⟨d,op,ty,ps,af,none⟩ (rO P hint n ops a p bx B Q i bs rest s d H) Ak:=by
 simp only[aU,cw]<;>rfl
theorem zQ(d:Option Tmp)(op:Op)(ty:TypeId)(ps:String)(af:Array Edge):aU P hint n ops a p bx B Q i (some true::bs) (⟨d,op,ty,ps,af,none⟩::rest) s H=if i=a then eU P hint p bx ⟨d,op,ty,ps,af,none⟩ H∧aU P hint n ops a p bx B Q (i+1) bs rest (bf n s d (.ptr p 1 0 0)) (H.set p bx)else aA P hint s H ⟨d,op,ty,ps,af,none⟩ (l8 P hint n ops a p bx B Q i bs rest s ⟨d,op,ty,ps,af,none⟩ H) Ak:=by
 simp only[aU,true_and]
 by_cases h:i<a
 ·have e:l8 P hint n ops a p bx B Q i bs rest s ⟨d,op,ty,ps,af,none⟩ H=fun r H'=>aA P hint s (H.set p bx) ⟨d,op,ty,ps,af,none⟩ (mf P hint n ops a p bx B Q i bs rest s d H r H') Ak:=by
   funext r H';exact if_pos h
  rw[e,if_pos h];rfl
 ·have e:l8 P hint n ops a p bx B Q i bs rest s ⟨d,op,ty,ps,af,none⟩ H=fun r H'=>Ext B H'∧aU P hint n ops a p bx B Q (i+1) bs rest (bf n s d r) H':=by
   funext r H';exact if_neg h
  rw[e,if_neg h];rfl
end
section
variable {P:Program} {hint:Nat→Bool} {n:Nat} {ops:Array Oper} {a p:Nat} {bx:az} {B:aa} {Q:aJ} {i:Nat} {bs:List (Option Bool)} {rest:List Oper} {s:Nat→AV}
@[congr] theorem G6 {l:List Oper} {H H':aa} (h:nf H=H'):aU P hint n ops a p bx B Q i bs l s H=aU P hint n ops a p bx B Q i bs l s H':=by rw[←h];rfl
@[congr] theorem Fm {d:Option Tmp} {H0 H H':aa} {r r':AV} (g:nf r=r') (h:nf H=H'):rO P hint n ops a p bx B Q i bs rest s d H0 r H=rO P hint n ops a p bx B Q i bs rest s d H0 r' H':=by rw[←g,←h];rfl
@[congr] theorem Fi {d:Option Tmp} {H0 H H':aa} {r r':AV} (g:nf r=r') (h:nf H=H'):qN P hint n ops a p bx B Q i bs rest s d H0 r H=qN P hint n ops a p bx B Q i bs rest s d H0 r' H':=by rw[←g,←h];rfl
@[congr] theorem Fk {d:Option Tmp} {H0 H1 H H':aa} {r0 r r':AV} (g:nf r=r') (h:nf H=H'):mf P hint n ops a p bx B Q i bs rest s d H0 r0 H1 r H=mf P hint n ops a p bx B Q i bs rest s d H0 r0 H1 r' H':=by rw[←g,←h];rfl
@[congr] theorem Fh {o:Oper} {H0 H H':aa} {r r':AV} (g:nf r=r') (h:nf H=H'):l8 P hint n ops a p bx B Q i bs rest s o H0 r H=l8 P hint n ops a p bx B Q i bs rest s o H0 r' H':=by rw[←g,←h];rfl
end
attribute [go_sem] zC yl yj zT uT vK zh zp zQ
inductive Fq (H:aa):AV→AV→Prop
 |d (x:D):Fq H (.d x) (.d x)
 |sl (id k ver off len:Nat) (e:TypeId) (es:List (List D)) (ho:H[id]?=some (.arr e k ver es)):Fq H (.sl id ver off len) (.d (.list false ((es.drop off).take len)))
inductive vW (H:aa):List AV→List AV→Prop
 |nil:vW H [] []
 |cons {x y:AV} {xs ys:List AV} (h:Fq H x y) (t:vW H xs ys):vW H (x::xs) (y::ys)
theorem vW.len{H:aa}{xs ys:List AV}(h:vW H xs ys):xs.length=ys.length:=by
 induction h with
 |nil=>rfl
 |cons _ _ ih=>simp[ih]
theorem vW.get{H:aa}{xs ys:List AV}(h:vW H xs ys):∀i (h1:i<xs.length) (h2:i<ys.length),Fq H xs[i] ys[i]:=by
 induction h with
 |nil=>intro i h1;simp at h1
 |cons h t ih=>
  intro i h1 h2
  cases i with
  |zero=>exact h
  |succ i=>exact ih i (by simpa using h1) (by simpa using h2)
def Dz(w:World):Addr→Prop:=fun a=>∃v,w.cell? a=some v
theorem Fq.ra{H:aa}{φ:aF}{N:Addr→Prop}{w:World}(hR:Rel H φ N w){x y:AV}{v:Value}(h:Fq H x y)(hx:RA H φ N w x v):RA [] (fun _=>none) (Dz w) w y v:=by
 cases h with
 |d x=>
  cases hx with
  |d hd=>exact .d (hd.mono (fun a ha=>hR.live a ha) fun _ _ _ h=>h)
 |sl id k ver off len e es ho=>
  cases hx with
  |sl _ _ _ _ A l m' o ho' hv' hp=>
  rw[ho]at ho';cases ho'
  obtain⟨rfl,h1,h2⟩:=hp rfl
  simp only[az.len]at h1
  by_cases hl0:l=0
  ·subst hl0
   simp only[List.take_zero]
   exact .d (.nil _ _ (by rcases h2 with⟨_,_,_,rfl⟩|⟨B,c,_,_,rfl,_⟩;exact fun _=>rfl;exact fun h=>by cases h))
  have hobj:=hR.obj id _ ho
  cases hobj with
  |arr _ _ _ _ hk hes hbl=>
  rcases h2 with⟨_,h3,_⟩|⟨B,c,h3,h4,rfl,rfl⟩
  ·omega
  rcases hbl with⟨g0,_⟩|⟨B',cap,cur,g1,g2,g3,g4,g5,g6⟩
  ·rw[g0]at h3;cases h3
  obtain⟨e1,e2⟩:=Prod.mk.inj (Option.some.inj (g1.symm.trans h3))
  subst e1 e2
  have hel:((es.drop off).take l).length=l:=by simp;omega
  have key:=RD.list (N:=Dz w) (w:=w) false ((es.drop off).take l) ⟨B',off* k,none⟩ (cap-off) k (fun i j=>cur.getD ((off+i)* k+j) undef) (by rw[hel];omega)
   (fun e he=>hes e (List.mem_of_mem_drop (List.mem_of_mem_take he))) (fun i j hi hj=>by
    rw[hel]at hi
    have hlt:(off+i)* k+j<es.length* k:=cD hj (by omega)
    have hlt2:(off+i)* k+j<cur.size:=by have:=Nat.mul_le_mul_right k g3;omega
    have hpos:off* k+(i* k+j)=(off+i)* k+j:=by rw[Nat.add_mul];omega
    rw[add_plain,hpos]
    have hc:w.cell? ⟨B',(off+i)* k+j,none⟩=some (cur.getD ((off+i)* k+j) undef):=by simp[World.cell?,g2,Array.getD,hlt2]
    exact⟨⟨_,hc⟩,hc⟩) (fun i hi j hj=>by
    rw[hel]at hi
    simp only[List.getElem_take,List.getElem_drop]at hj⊢
    obtain⟨u,hu,hd⟩:=g6 (off+i) (by omega) j hj
    have hget:cur.getD ((off+i)* k+j) undef=u:=by
     rw[Array.getD_eq_getD_getElem?,hu];rfl
    simp only[hget]
    exact hd.mono (fun a ha=>hR.live a ha) fun _ _ _ h=>h)
  rw[hel]at key
  exact .d key
end Go.Proofs.YtfklokhopcmloaaGreatAw
namespace Go.Proofs.YtfklokhopcmloaaGreat
open Go.Proofs.YtfklokhopcmloaaGreatAw Go.RowKit
theorem zN(H xs ys:aa):Ext (H++xs) (H++(xs++ys)):=by rw[←List.append_assoc];exact Ext.app _ _
theorem B4{H T G:aa}{s:Nat→AV}(e:TypeId)(k:Nat)(hk:0<k)(h:G=H++T):al H s G (fun t=>nE G H.length (s t)) (H++[.arr e k 0 []]):=by
 subst h
 exact(al.drop H T s).trans (al.more _ _ e k hk)
theorem tX.IF{m:Nat}{In:aa→Prop}{Ix:AX→aa→Prop}{H ob0:aa}{s:Nat→AV}(db T:aa){H3:aa}(e:H3=H++(db++T))(hk:db.length=ob0.length)(hm:m=(H++ob0).length)(hb:db.all (az.below m)=true)
  (hi:Ix .ret (H++db)):tX m In Ix (H++ob0) .ret s H3:=by
 obtain⟨s3,H4,h1,h2,h3⟩:=tX.cut (In:=fun X=>X=H++db) (Ix:=fun _ _=>False) (s:=s) db T e hk hm hb rfl
 subst h3
 exact⟨s3,_,h1,h2,hi⟩
theorem u0(S:List (List Sg))(l:List Sg):cl S++[[.list false (l.map Sg.ds)]]=cl (S++[l]):=by simp[cl]
theorem pT{ks:List Int}:∀{R:List (List ak)},iR ks R=0→∀r∈R,gR r ks=0
 |[],_,r,h=>by cases h
 |x::R,h,r,hr=>by
  unfold iR at h
  by_cases h0:gR x ks=0
  ·rw[if_neg (by simpa using h0)]at h
   rcases List.mem_cons.1 hr with rfl|hr
   ·exact h0
   ·exact pT h r hr
  ·rw[if_pos h0]at h;exact absurd h h0
theorem xh{R:List (List ak)}{ks:List Int}(h:cX R ks=0)(r:List ak)(hr:r∈R):r.length=ks.length:=by
 unfold cX at h
 split at h
 ·cases h
 ·split at h
  ·cases h
  ·have:=pT h r hr
   unfold gR at this
   split at this
   ·cases this
   ·rename_i hh;simpa using hh
theorem sZ{l:List Int}{n:Int}(h:dD l n=true)(x:Int)(hx:x∈l):0≤x∧x<n:=by
 unfold dD at h
 simp only[Bool.not_eq_true',List.any_eq_false,decide_eq_true_eq]at h
 have:=h x hx
 omega
theorem uq(R:List (List ak))(ks cs key:List Int)(w:Int)(n0 n1 n2 n3:Bool)(H:aa)(hR:R.length≤1000000000)(hr:∀r∈R,r.length≤1000000000)(hk:ks.length≤1000000000)(hcl:cs.length≤1000000000)(hkl:key.length≤1000000000)(hI:∀r∈R,∀v∈r,jU v.i)(he:cX R ks=0)(hb:¬uQ ks cs key):
  ag Tryz.prog 26 [.d (.list n0 (bC R)),.d (.list n1 (ints ks)),.d (.list n2 (ints cs)),.d (.list n3 (ints key)),iA w] H
   (.ok (if jw (nx R key) ks cs w≠0 then .aZ [.agg fF,iA (jw (nx R key) ks cs w)]else .aZ [(Pj.mk cs key R.length (ez (nx R key) ks cs w)).av,iA 0])) H:=by
 have hc:=fun H=>jd R ks n0 n1 H (by omega) (fun r h=>by have:=hr r h;omega) (by omega)
 have hw1:=fun H=>ga cs n2 ks.length H (by omega)
 have hw2:=fun H=>ga key n3 ks.length H (by omega)
 have ho:=fun H=>CI.ql n2 cs H hcl
 have hcl1:=fun H=>mr cs n2 H (by omega)
 have hcl2:=fun H=>mr key n3 H (by omega)
 have hby:=fun H=>CQ R key n0 n3 H hR hr (by omega)
 have hcn:decide cs.Nodup=false↔¬cs.Nodup:=by simp
 have g1:¬cs.length=0:=fun h=>hb (.inl h)
 have g2:¬8<key.length:=fun h=>hb (.inr (.inl h))
 have g3:dD cs ks.length=true:=by cases h:dD cs ks.length;exact absurd (.inr (.inr (.inl h))) hb;rfl
 have g4:dD key ks.length=true:=by cases h:dD key ks.length;exact absurd (.inr (.inr (.inr (.inl h)))) hb;rfl
 have g5:decide cs.Nodup=true:=by cases h:decide cs.Nodup;exact absurd (.inr (.inr (.inr (.inr (hcn.1 h))))) hb;rfl
 rw[he]at hc
 rw[g3]at hw1
 rw[g4]at hw2
 rw[g5]at ho
 have hQl:(nx R key).length=R.length:=St.aP _
 have hQm:∀r,r∈nx R key↔r∈R:=fun r=>St.gV (kS key).ord
 have hQr:∀r∈nx R key,r.length=ks.length:=fun r h=>xh he r ((hQm r).1 h)
 have hQI:∀r∈nx R key,∀v∈r,jU v.i:=fun r h=>hI r ((hQm r).1 h)
 have hcr:∀c∈cs,0≤c∧c<ks.length:=fun c h=>sZ g3 c h
 generalize nx R key=Q at*
 refine ag.cC (hint:=fun t=>t==2000000||t==1000024||t==1000026) Tryz.func26 (by kernel_rfl) rfl [.cell 10 49,.cell 11 62] (by kernel_rfl) (by simp[Tryz.ntmps26]) ?_
 rw[Tryz.ntmps26]
 simp -implicitDefEqProofs only[↓reduceIte,go_sem,ab,Nat.reduceAdd,Nat.reduceLT,Nat.reduceEqDiff,Nat.reduceBEq,reduceCtorEq]
 refine ae.ok (hc _) ?_
 simp -implicitDefEqProofs only[↓reduceIte,go_sem,ab,Nat.reduceAdd,Nat.reduceLT,Nat.reduceEqDiff,Nat.reduceBEq,reduceCtorEq,ay,show ¬((cs.length:Int)=0) by omega,show ¬(8:Int)<key.length by omega]
 refine ae.ok (hw1 _) ?_
 simp -implicitDefEqProofs only[↓reduceIte,go_sem,ab,Nat.reduceLT,Nat.reduceEqDiff,reduceCtorEq,ay]
 refine ae.ok (hw2 _) ?_
 simp -implicitDefEqProofs only[↓reduceIte,go_sem,Nat.reduceLT,Nat.reduceEqDiff,reduceCtorEq]
 refine ae.ok (ho _) ?_
 simp -implicitDefEqProofs only[↓reduceIte,go_sem,Nat.reduceAdd,Nat.reduceLT,Nat.reduceEqDiff,Nat.reduceBEq,reduceCtorEq]
 refine ae.ok (hcl1 _) ?_
 simp -implicitDefEqProofs only[↓reduceIte,go_sem,Nat.reduceLT,Nat.reduceEqDiff]
 refine ae.ok (hcl2 _) ?_
 simp -implicitDefEqProofs only[↓reduceIte,go_sem,an,Nat.reduceAdd,Nat.reduceLT,Nat.reduceLeDiff,Nat.reduceEqDiff,Nat.reduceBEq,reduceCtorEq,b8]
 refine ae.ok (hby _) ?_
 simp -implicitDefEqProofs only[↓reduceIte,go_sem,Nat.reduceAdd,Nat.reduceLT,Nat.reduceEqDiff,Nat.reduceBEq,ay]
 refine aO (fun k s H'=>H'=H++[.box 23 1 0 1 [.d (.list n1 (ints ks))],.box 3 1 0 1 [iA w],.box 49 4 0 1 fF,.box 62 1 0 1 [iA 0],.box 49 4 0 1 [.d (.list false (ints cs)),.d (.list false (ints key)),iA R.length,.sl (H.length+5) k 0 k],.arr 91 1 k (cl (ez Q ks (cs.take k) w))]∧(∀x∈(cs.take k).flatMap fun c=>(a8 Q ks w c).map (·.2),x=0)∧s 6= .ptr H.length 0 0 0∧s 9= .ptr (H.length+1) 0 0 0∧s 10= .ptr (H.length+2) 0 0 0∧s 11= .ptr (H.length+3) 0 0 0∧s 13= .ptr (H.length+4) 0 0 0∧s 14= .d (.list false (bC Q))∧s 69= .d (.list n2 (ints cs))∧s 70=iA cs.length∧s 71=iA k) cs.length (by omega) (al.dA _ _ (H.length+4) 49 4 0 1 [.d (.list false (ints cs)),.d (.list false (ints key)),iA R.length,.d (.v (.slice none 0 0))] 3 _ 91 1 (by decide) (by simp -implicitDefEqProofs only[go_sem]) rfl rfl) ?_ ?_ ?_
 ·refine⟨?_,?_,?_⟩
  ·simp -implicitDefEqProofs only[go_sem,Nat.reduceAdd,List.take_zero,ez,cl,fF]
  ·intro x hx;simp at hx
  ·simp -implicitDefEqProofs only[↓reduceIte,go_sem,Nat.reduceLT,Nat.reduceEqDiff]
 ·rintro k s H' hk' hw ⟨rfl,hp,t6,t9,t10,t11,t13,t14,t69,t70,t71⟩
  have hy:=ck cs k hk'
  have hcm:=hcr cs[k] (List.getElem_mem hk')
  have e1:cs.take (k+1)=cs.take k++[cs[k]]:=List.take_succ_eq_append_getElem hk'
  have e2:cs=cs.take k++cs[k]::cs.drop (k+1):=by rw[←List.drop_eq_getElem_cons hk',List.take_append_drop]
  generalize hcc:cs[k]=c at*
  simp -implicitDefEqProofs only[↓reduceIte,go_sem,an,Nat.reduceAdd,Nat.reduceLT,Nat.reduceEqDiff,Nat.reduceBEq,t14,t69,t70,t71,hk',hy]
  refine ae.ok (xd false Q _) ?_
  simp -implicitDefEqProofs only[go_sem,Nat.reduceAdd]
  have hWl:(cl (ez Q ks (cs.take k) w)).length=k:=by simp[cl,ez];omega
  have hW:cl (ez Q ks (cs.take (k+1)) w)=cl (ez Q ks (cs.take k) w)++[[.list false (((a8 Q ks w c).map (·.1)).map Sg.ds)]]:=by rw[e1,u0];simp[ez]
  generalize cl (ez Q ks (cs.take k) w)=W at*
  generalize hW2:cl (ez Q ks (cs.take (k+1)) w)=W2 at*
  refine gQ (fun t=>t==22||t==1000020) (fun j Hk=>Hk=H++[.box 23 1 0 1 [.d (.list n1 (ints ks))],.box 3 1 0 1 [iA w],.box 49 4 0 1 fF,.box 62 1 0 1 [iA 0],.box 49 4 0 1 [.d (.list false (ints cs)),.d (.list false (ints key)),iA R.length,.sl (H.length+5) k 0 k],.arr 91 1 k W,.box 3 1 0 1 [iA c],.box 91 1 0 1 [.sl (H.length+10) j 0 j],cB false Q,nB 256,.arr 94 12 j ((((a8 Q ks w c).take j).map (·.1)).map Sg.ds)]∧∀x∈(a8 Q ks w c).take j,x.2=0)
   (fun e Hx=>∃j L,e= .ret∧Hx=H++[.box 23 1 0 1 [.d (.list n1 (ints ks))],.box 3 1 0 1 [iA w],.box 49 4 0 1 fF,.box 62 1 0 1 [iA (jw Q ks cs w)],.box 49 4 0 1 [.d (.list false (ints cs)),.d (.list false (ints key)),iA R.length,.sl (H.length+5) k 0 k],.arr 91 1 k W,.box 3 1 0 1 [iA c],.box 91 1 0 1 [.sl (H.length+10) j 0 j],cB false Q,nB 256,.arr 94 12 j L]∧jw Q ks cs w≠0)
   (by kernel_rfl) (by kernel_rfl) (al.dA _ _ (H.length+7) 91 1 0 1 [.d (.v (.slice none 0 0))] 0 _ 94 12 (by decide) (by simp -implicitDefEqProofs only[go_sem]) rfl rfl) (by simp -implicitDefEqProofs only[↓reduceIte,go_sem,Nat.reduceLT]) (AI false Q (H.length+8) (H.length+9) (by omega)) ?_ ?_ ?_ ?_ ?_ ?_
  ·intro v hv
   obtain⟨u,_,rfl⟩:=List.mem_map.1 hv
   exact⟨rfl,fun w hw=>by rw[List.mem_singleton.1 hw];rfl⟩
  ·refine⟨?_,fun x hx=>by simp at hx⟩
   simp -implicitDefEqProofs only[go_sem,Nat.reduceAdd,List.take_zero]
  ·rintro j _ ⟨rfl,_⟩
   exact⟨by simp -implicitDefEqProofs only[go_sem],by simp -implicitDefEqProofs only[go_sem,Nat.reduceAdd]⟩
  ·rintro j hj _ ⟨rfl,hq⟩
   rw[ya]
   rw[kT]at hj
   have hjl:=Bk.1 hj
   have hpc:(a8 Q ks w c)[j]?=some (ka (iV c (xZ Q j)) (ks.getD c.toNat 0) w):=by simp[a8,sr,hj]
   have hpl:(xZ Q j).length≤256:=by unfold xZ;rw[List.length_take];omega
   have hpm:∀r∈xZ Q j,r∈Q:=fun r h=>List.mem_of_mem_drop (List.mem_of_mem_take h)
   obtain⟨cn,rfl⟩:=Int.eq_ofNat_of_zero_le hcm.1
   have hcn2:cn<ks.length:=by omega
   have hkd:ks.getD (cn:Int).toNat 0=ks[cn]:=by simp[List.getD,hcn2]
   have hkx:=ck ks cn hcn2
   rw[hkd]at hpc
   generalize ks[cn]=kd at*
   have hpr:∀r∈xZ Q j,r.length=ks.length:=fun r h=>hQr r (hpm r h)
   have hpI:∀v∈iV cn (xZ Q j),jU v.i:=fun v hv=>by
    obtain⟨r,h1,rfl⟩:=List.mem_map.1 hv
    have hl:=hpr r h1
    have:gY r (cn:Int)=r[cn]'(by omega):=by simp[gY,List.getD,show cn<r.length by omega];intro h;omega
    rw[this]
    exact hQI r (hpm r h1) _ (List.getElem_mem _)
   generalize hpp:xZ Q j=p at*
   have hmk:=fun G:aa=>zj (iV cn p) kd w hpI (by simp[iV];omega) G
   have hLl:(((List.take j (a8 Q ks w cn)).map (·.1)).map Sg.ds).length=j:=by
    rw[List.length_map,List.length_map,List.length_take]
    have:=(List.getElem?_eq_some_iff.1 hpc).1
    omega
   generalize hL:((List.take j (a8 Q ks w cn)).map (·.1)).map Sg.ds=L at*
   simp -implicitDefEqProofs only[↓reduceIte,go_sem,Nat.reduceAdd,Nat.reduceLT,Nat.reduceEqDiff,Nat.reduceBEq,b8]
   refine aO (fun i s G=>G=(H++[.box 23 1 0 1 [.d (.list n1 (ints ks))],.box 3 1 0 1 [iA w],.box 49 4 0 1 fF,.box 62 1 0 1 [iA 0],.box 49 4 0 1 [.d (.list false (ints cs)),.d (.list false (ints key)),iA R.length,.sl (H.length+5) k 0 k],.arr 91 1 k W,.box 3 1 0 1 [iA cn],.box 91 1 0 1 [.sl (H.length+10) j 0 j],cB false Q,nB 256,.arr 94 12 j L])++[.arr 69 3 i ((iV cn (p.take i)).map ak.enc)]∧s 6= .ptr H.length 0 0 0∧s 9= .ptr (H.length+1) 0 0 0∧s 10= .ptr (H.length+2) 0 0 0∧s 11= .ptr (H.length+3) 0 0 0∧s 16= .ptr (H.length+6) 0 0 0∧s 17= .ptr (H.length+7) 0 0 0∧s 19= .sl (H.length+11) i 0 i∧s 78= .d (.list false (bC p))∧s 79=iA p.length∧s 80=iA i) p.length (by omega) (al.gB _ _ 19 69 3 (by decide) (by simp -implicitDefEqProofs only[↓reduceIte,go_sem,Nat.reduceLT,Nat.reduceEqDiff]) _) ?_ ?_ ?_
   ·refine⟨?_,?_⟩
    ·simp -implicitDefEqProofs only[go_sem,List.take_zero,iV]
    ·simp -implicitDefEqProofs only[↓reduceIte,go_sem,Nat.reduceAdd,Nat.reduceLT,Nat.reduceEqDiff,t6,t9,t10,t11]
   ·rintro i s G hi hw3 ⟨rfl,t6,t9,t10,t11,t16,t17,t19,t78,t79,t80⟩
    have hx:=jN p i hi
    have hrl:=hpr p[i] (List.getElem_mem hi)
    have e3:(iV cn (p.take (i+1))).map ak.enc=(iV cn (p.take i)).map ak.enc++[(gY p[i] cn).enc]:=by rw[List.take_succ_eq_append_getElem hi];unfold iV;rw[List.map_append,List.map_append];rfl
    have hvl:((iV cn (p.take i)).map ak.enc).length=i:=by simp[iV];omega
    have hat:gY p[i] (cn:Int)=p[i][cn]'(by omega):=by simp[gY,List.getD,show cn<p[i].length by omega];intro h;omega
    have hvx:(p[i].map ak.enc)[cn]?=some (gY p[i] cn).enc:=by rw[hat,List.getElem?_map,List.getElem?_eq_getElem (by omega)];rfl
    have hrl2:cn<p[i].length:=by omega
    rw[e3]
    clear hat
    generalize (iV cn (p.take i)).map ak.enc=VV at*
    generalize gY p[i] (cn:Int)=v at*
    generalize p[i]=r at*
    simp -implicitDefEqProofs only[↓reduceIte,go_sem,ab,Nat.reduceAdd,Nat.reduceLT,Nat.reduceLeDiff,Nat.reduceEqDiff,Nat.reduceBEq,t16,t19,t78,t79,t80,hi,hx,hvx,hvl,ak.enc]
    refine⟨by omega,by omega,c7.same ⟨rfl,?_⟩⟩
    simp -implicitDefEqProofs only[↓reduceIte,go_sem,Nat.reduceLT,Nat.reduceEqDiff,t6,t9,t10,t11,t16,t17,t78,t79,show IntKind.i64.wrap ((i:Int)+1)=(i:Int)+1 from wrap64_in _ (by omega) (by omega)]
   ·rintro s G ⟨rfl,t6,t9,t10,t11,t16,t17,t19,t78,t79,t80⟩
    simp -implicitDefEqProofs only[↓reduceIte,go_sem,Nat.reduceAdd,Nat.reduceLT,Nat.reduceBEq,t79,t80]
    rw[List.take_of_length_le (Nat.le_refl _)]
    have hcl3:(iV cn p).length=p.length:=by simp[iV]
    generalize iV (cn:Int) p=V at*
    refine⟨_,_,B4 (T:=[_]) 94 12 (by decide) (by rw[List.append_assoc];rfl),?_⟩
    simp -implicitDefEqProofs only[go_sem]
    generalize ka V kd w=mp at*
    obtain⟨sg,e⟩:=mp
    simp only at hmk
    have hti:TI Tryz.prog 94=some ((.agg #[.int .i64 0,.int .i64 0,.int .i64 0,.int .i64 0,.int .i64 0,.int .i64 0,.string ⟨#[]⟩,.int .i64 0,.int .i64 0,.string ⟨#[]⟩,.slice none 0 0,.slice none 0 0]:Value),12,144):=by kernel_rfl
    refine qn [some false,none,none,none,none,none,some true,some false,some false,some false,some true,some true,some false] 10 (H.length+11) (.box 94 12 1 1 pg) (H++[.box 23 1 0 1 [.d (.list n1 (ints ks))],.box 3 1 0 1 [iA w],.box 49 4 0 1 fF,.box 62 1 0 1 [iA 0],.box 49 4 0 1 [.d (.list false (ints cs)),.d (.list false (ints key)),iA R.length,.sl (H.length+5) k 0 k],.arr 91 1 k W,.box 3 1 0 1 [iA cn],.box 91 1 0 1 [.sl (H.length+10) j 0 j],cB false Q,nB 256,.arr 94 12 j L]) K.mixed (by kernel_rfl) (by kernel_rfl) (by kernel_rfl) (zN _ [_,_,_,_,_,_,_,_,_,_,_] [_]) (by intro o ho;simp at ho) ?_
    simp -implicitDefEqProofs only[↓reduceIte,go_sem,ab,Nat.reduceAdd,Nat.reduceLT,Nat.reduceEqDiff,reduceCtorEq,t6,t9,t16,t19,hkx,lD,List.length_map,hcl3]
    refine ae.ok (hmk _) ?_
    simp -implicitDefEqProofs only[↓reduceIte,go_sem,Nat.reduceAdd,Nat.reduceLT,Nat.reduceEqDiff]
    refine ae.ok (hmk _) ?_
    obtain⟨sk,sw,⟨zr,zn,mn,mx⟩,ns,bd⟩:=sg
    simp -implicitDefEqProofs only[↓reduceIte,go_sem,an,Nat.reduceAdd,Nat.reduceLT,Nat.reduceEqDiff,Sg.cs]
    refine⟨zN _ [_,_,_,_,_,_,_,_,_,_,_] [_],⟨_,_,_,_,94,rfl,rfl,hti,⟨by decide,by kernel_rfl,by kernel_rfl⟩,rfl,rfl,by simp -implicitDefEqProofs only[go_sem]⟩,?_⟩
    simp -implicitDefEqProofs only[↓reduceIte,go_sem,Nat.reduceAdd,Nat.reduceLT,Nat.reduceEqDiff,Nat.reduceBEq,pg,jK]
    refine⟨zN _ [_,_,_,_,_,_,_,_,_,_,_] [_],?_⟩
    by_cases h3:e=0
    ·subst h3
     simp -implicitDefEqProofs only[↓reduceIte,go_sem,ab,an,Nat.reduceAdd,Nat.reduceLT,Nat.reduceLeDiff,Nat.reduceEqDiff,Nat.reduceBEq,t17]
     refine⟨hLl,by omega,by omega,?_⟩
     refine tX.cut [.box 23 1 0 1 [.d (.list n1 (ints ks))],.box 3 1 0 1 [iA w],.box 49 4 0 1 fF,.box 62 1 0 1 [iA 0],.box 49 4 0 1 [.d (.list false (ints cs)),.d (.list false (ints key)),iA R.length,.sl (H.length+5) k 0 k],.arr 91 1 k W,.box 3 1 0 1 [iA cn],.box 91 1 0 1 [.sl (H.length+10) (j+1) 0 (j+1)],cB false Q,nB 256,.arr 94 12 (j+1) (L++[Sg.ds ⟨sk,sw,⟨zr,zn,mn,mx⟩,ns,bd⟩])] _ (by rw[hLl];rfl) rfl (by simp -implicitDefEqProofs only[go_sem,Nat.reduceAdd]) (by simp -implicitDefEqProofs only[go_sem,Nat.reduceLT,fF]) ?_
     have e4:(a8 Q ks w cn).take (j+1)=(a8 Q ks w cn).take j++[(⟨sk,sw,⟨zr,zn,mn,mx⟩,ns,bd⟩,0)]:=by rw[List.take_add_one,hpc];rfl
     refine⟨?_,?_⟩
     ·rw[e4,List.map_append,List.map_append,hL];rfl
     ·rw[e4]
      intro x hx
      rcases List.mem_append.1 hx with hx|hx
      ·exact hq x hx
      ·rw[List.mem_singleton.1 hx]
    ·have hfe:jw Q ks cs w=e:=by
      obtain⟨hj2,hj3⟩:=List.getElem?_eq_some_iff.1 hpc
      have h4:=List.drop_eq_getElem_cons hj2
      rw[hj3]at h4
      have h5:(a8 Q ks w cn).map (·.2)=((a8 Q ks w cn).take j).map (·.2)++e::((a8 Q ks w cn).drop (j+1)).map (·.2):=by
       conv=>lhs;rw[←List.take_append_drop j (a8 Q ks w cn),h4,List.map_append,List.map_cons]
      unfold jw
      rw[e2,List.flatMap_append,List.flatMap_cons,h5,List.append_assoc,List.cons_append,←List.append_assoc]
      refine vE ?_ h3
      intro x hx
      rcases List.mem_append.1 hx with hx|hx
      ·exact hp x hx
      ·obtain⟨y,hy,rfl⟩:=List.mem_map.1 hx
       exact hq y hy
     simp -implicitDefEqProofs only[↓reduceIte,go_sem,an,Nat.reduceAdd,Nat.reduceLT,Nat.reduceEqDiff,h3,t10,t11,fF]
     refine tX.IF [.box 23 1 0 1 [.d (.list n1 (ints ks))],.box 3 1 0 1 [iA w],.box 49 4 0 1 fF,.box 62 1 0 1 [iA e],.box 49 4 0 1 [.d (.list false (ints cs)),.d (.list false (ints key)),iA R.length,.sl (H.length+5) k 0 k],.arr 91 1 k W,.box 3 1 0 1 [iA cn],.box 91 1 0 1 [.sl (H.length+10) j 0 j],cB false Q,nB 256,.arr 94 12 j L] _ rfl rfl (by simp -implicitDefEqProofs only[go_sem,Nat.reduceAdd]) (by simp -implicitDefEqProofs only[go_sem,Nat.reduceLT,fF]) ?_
     exact⟨j,L,rfl,by rw[hfe];rfl,by rw[hfe];exact h3⟩
  ·rintro _ ⟨rfl,hq⟩
   have hpl:(a8 Q ks w c).length=xU Q.length:=by simp[a8,sr]
   rw[kT,←hpl,List.take_length]at hq
   rw[kT,←hpl,List.take_length]
   have hq2:∀x∈(a8 Q ks w c).map (·.2),x=0:=fun x hx=>by obtain⟨y,hy,rfl⟩:=List.mem_map.1 hx;exact hq y hy
   have hp2:∀x∈(cs.take (k+1)).flatMap fun c=>(a8 Q ks w c).map (·.2),x=0:=by
    rw[e1,List.flatMap_append,List.flatMap_cons,List.flatMap_nil,List.append_nil]
    intro x hx
    rcases List.mem_append.1 hx with hx|hx
    ·exact hp x hx
    ·exact hq2 x hx
   have hLl:(((a8 Q ks w c).map (·.1)).map Sg.ds).length=(a8 Q ks w c).length:=by simp
   generalize ((a8 Q ks w c).map (·.1)).map Sg.ds=L at*
   generalize (a8 Q ks w c).length=n at*
   simp -implicitDefEqProofs only[go_sem,Nat.reduceAdd,Nat.reduceLT,Nat.reduceBEq]
   refine⟨_,_,al.mw _ _ (H.length+7) 1 0 1 0 (H.length+10) n 0 n 12 91 94 [.sl (H.length+10) n 0 n] L (by simp -implicitDefEqProofs only[go_sem]) rfl (by simp -implicitDefEqProofs only[go_sem]),?_⟩
   have hLt:=lD L n hLl
   simp -implicitDefEqProofs only[↓reduceIte,go_sem,ab,an,Nat.reduceAdd,Nat.reduceLT,Nat.reduceLeDiff,Nat.reduceEqDiff,Nat.reduceBEq,hLt,t13,hWl,t71]
   refine⟨by omega,by omega,?_⟩
   rw[hW]
   refine c7.cut [.box 23 1 0 1 [.d (.list n1 (ints ks))],.box 3 1 0 1 [iA w],.box 49 4 0 1 fF,.box 62 1 0 1 [iA 0],.box 49 4 0 1 [.d (.list false (ints cs)),.d (.list false (ints key)),iA R.length,.sl (H.length+5) (k+1) 0 (k+1)],.arr 91 1 (k+1) (W++[[.list false L]])] _ 6 rfl rfl (by simp -implicitDefEqProofs only[go_sem,Nat.reduceLT,fF]) ?_
   refine⟨rfl,hp2,?_⟩
   simp -implicitDefEqProofs only[↓reduceIte,go_sem,Nat.reduceLT,Nat.reduceEqDiff,t6,t9,t10,t11,t13,t14,t69,t70,hw]
  ·rintro _ _ ⟨j,L,rfl,rfl,h2⟩
   rw[if_pos h2]
   generalize jw Q ks cs w=e at*
   simp -implicitDefEqProofs only[go_sem]
   refine cN.ret ?_
   simp -implicitDefEqProofs only[↓reduceIte,go_sem,ab,Nat.reduceAdd,Nat.reduceLeDiff,Nat.reduceEqDiff,reduceCtorEq,t10,t11,bI,cO,fF]
 ·rintro s H' ⟨rfl,hp,t6,t9,t10,t11,t13,t14,t69,t70,t71⟩
  rw[List.take_length]at hp
  rw[List.take_length]
  have hfe:jw Q ks cs w=0:=tp hp
  rw[if_neg (by rw[hfe];simp)]
  have hWl:(cl (ez Q ks cs w)).length=cs.length:=by simp[cl,ez]
  have hWt:=lD _ _ hWl
  unfold Pj.av Pj.ds
  simp only[List.map_cons,List.map_nil]
  generalize cl (ez Q ks cs w)=W at*
  generalize hm:cs.length=m at*
  simp -implicitDefEqProofs only[↓reduceIte,go_sem,Nat.reduceAdd,Nat.reduceLT,Nat.reduceBEq,t70,t71]
  refine⟨_,_,al.mw _ _ (H.length+4) 4 0 1 3 (H.length+5) m 0 m 1 49 91 [.d (.list false (ints cs)),.d (.list false (ints key)),iA R.length,.sl (H.length+5) m 0 m] W (by simp -implicitDefEqProofs only[go_sem]) rfl (by simp -implicitDefEqProofs only[go_sem]),?_⟩
  simp -implicitDefEqProofs only[↓reduceIte,go_sem,ab,an,Nat.reduceAdd,Nat.reduceLT,Nat.reduceEqDiff,hWt,t13,t10,t11,fF]
  refine cN.ret ?_
  simp -implicitDefEqProofs only[↓reduceIte,go_sem,ab,Nat.reduceAdd,Nat.reduceLeDiff,Nat.reduceEqDiff,reduceCtorEq,t10,t11,bI,cO]
theorem iL{R:List (List ak)}{ks:List Int}(h:cX R ks=0):0<ks.length∧ks.length≤8∧(∀k∈ks,1≤k∧k≤3)∧R.length≤4096∧iR ks R=0:=by
 unfold cX at h
 split at h
 ·cases h
 ·rename_i h1
  split at h
  ·cases h
  ·refine⟨by omega,by omega,fun k hk=>?_,by omega,h⟩
   have h2:=fun hh=>h1 (.inr (.inr hh))
   rw[List.any_eq_true]at h2
   have h3:¬(k<1∨3<k):=fun hh=>h2 ⟨k,hk,decide_eq_true hh⟩
   omega
theorem v7(R:List (List ak))(ks cs key:List Int)(w:Int)(n0 n1 n2 n3:Bool)(H:aa)(hR:R.length≤1000000000)(hr:∀r∈R,r.length≤1000000000)(hk:ks.length≤100000000000000)(hcl:cs.length≤1000000000)(hkl:key.length≤1000000000)(hI:∀r∈R,∀v∈r,jU v.i):
  ag Tryz.prog 26 [.d (.list n0 (bC R)),.d (.list n1 (ints ks)),.d (.list n2 (ints cs)),.d (.list n3 (ints key)),iA w] H (.ok (.aZ [(eS R ks cs key w).1.av,iA (eS R ks cs key w).2])) H:=by
 unfold eS
 by_cases he:cX R ks=0
 ·rw[if_neg (by simpa using he)]
  have hk:=(iL he).2.1
  by_cases hb:uQ ks cs key
  ·rw[if_pos hb]
   exact(tc R ks cs key w n0 n1 n2 n3 H hR hr (by omega) hcl hkl he hb).jX (.cons sn (.cons (.refl _) .nil))
  ·rw[if_neg hb]
   have h:=uq R ks cs key w n0 n1 n2 n3 H hR hr (by omega) hcl hkl hI he hb
   by_cases hf:jw (nx R key) ks cs w=0
   ·rw[if_neg (by simpa using hf)]at h⊢
    exact h
   ·rw[if_pos hf]at h⊢
    exact h.jX (.cons sn (.cons (.refl _) .nil))
 ·rw[if_pos he]
  exact(tH R ks cs key w n0 n1 n2 n3 H hR hr hk he).jX (.cons sn (.cons (.refl _) .nil))
abbrev Atom.av(a:Atom):AV:= .agg [iA a.fM,iA a.op,iA a.val.kind,iA a.val.i,sA a.val.s]
theorem uy(l:List Atom)(p:Atom→Bool)(g:FuncId)(caps:List AV)(n1:Bool)(H:aa)(hl:l.length≤9223372036854775807)(hf:∀v∈l,ag Tryz.prog g ([v.av]++caps) H (.ok (bA (p v))) H):
  ag Tryz.prog 57 [.d (.list n1 (l.map Atom.enc)),.fn g caps] H (.ok (iA (jV p l))) H:=by
 refine ag.aj (hint:=(fun _=>false)) Tryz.func57 (by kernel_rfl) rfl [4] (by kernel_rfl) (by decide) (by simp[Tryz.ntmps57]) ?_
 rw[Tryz.ntmps57]
 simp -implicitDefEqProofs only[↓reduceIte,go_sem,Nat.reduceLT,Int.reduceNeg,reduceCtorEq]
 refine aO (fun k s H'=>H'=H∧(∀i (hi:i<k) (hl:i<l.length),p l[i]=false)∧s 0= .d (.list n1 (l.map Atom.enc))∧s 1= .fn g caps∧s 7=iA l.length∧s 8=iA k) l.length hl (al.refl _ _) ?_ ?_ ?_
 ·refine⟨rfl,fun i hi=>by omega,?_⟩
  simp -implicitDefEqProofs only[↓reduceIte,go_sem,Nat.reduceLT,Nat.reduceEqDiff,reduceCtorEq]
 ·rintro k s H' hk hw ⟨rfl,hp,h0,h1,h7,h8⟩
  have hx:=List.getElem?_eq_getElem hk
  have hit:p l[k]=true→jV p l=k:=fun h=>nt hp hk h
  have hpp:p l[k]=false→∀i (hi:i<k+1) (hl:i<l.length),p l[i]=false:=fun h0 i hi hl'=>by
   rcases Nat.lt_or_ge i k with h|h
   ·exact hp i h hl'
   ·obtain rfl:i=k:=by omega
    exact h0
  have hfk:=hf l[k] (List.getElem_mem hk)
  generalize l[k]=v at hx hit hpp hfk
  simp -implicitDefEqProofs only[↓reduceIte,go_sem,Nat.reduceAdd,Nat.reduceLT,Nat.reduceEqDiff,reduceCtorEq,h0,h1,h7,h8,hk,hx,Atom.enc]
  refine ae.ok hfk ?_
  cases hv:p v with
  |true=>
   simp -implicitDefEqProofs only[↓reduceIte,go_sem,Nat.reduceLT,Nat.reduceEqDiff]
   refine au.aV ?_
   simp -implicitDefEqProofs only[↓reduceIte,go_sem,Nat.reduceLT,hit hv]
  |false=>
   simp -implicitDefEqProofs only[↓reduceIte,go_sem,Nat.reduceLT,Nat.reduceEqDiff,h8]
   refine c7.same ⟨rfl,hpp hv,?_⟩
   simp -implicitDefEqProofs only[↓reduceIte,go_sem,Nat.reduceLT,Nat.reduceEqDiff,reduceCtorEq,h0,h1,h7,hw]
 ·rintro s H' ⟨rfl,hp,h0,h1,h7,h8⟩
  simp -implicitDefEqProofs only[↓reduceIte,go_sem,Nat.reduceLT,Int.reduceNeg,h7,h8]
  refine au.aV ?_
  simp -implicitDefEqProofs only[↓reduceIte,go_sem,Nat.reduceLT,Int.reduceNeg,lW fun i hi=>hp i hi hi]
theorem fo(l:List Atom)(p:Atom→Bool)(g:FuncId)(caps:List AV)(n1:Bool)(H:aa)(hl:l.length≤9223372036854775807)(hf:∀v∈l,ag Tryz.prog g ([v.av]++caps) H (.ok (bA (p v))) H):
  ag Tryz.prog 32 [.d (.list n1 (l.map Atom.enc)),.fn g caps] H (.ok (bA (l.any p))) H:=by
 refine ag.aj (hint:=(fun _=>false)) Tryz.func32 (by kernel_rfl) rfl [4] (by kernel_rfl) (by decide) (by simp[Tryz.ntmps32]) ?_
 rw[Tryz.ntmps32]
 simp -implicitDefEqProofs only[↓reduceIte,go_sem,Nat.reduceLT,Nat.reduceEqDiff,reduceCtorEq]
 refine ae.ok (uy l p g caps n1 H hl hf) ?_
 simp -implicitDefEqProofs only[↓reduceIte,go_sem,Nat.reduceLT,nU]
 refine au.aV ?_
 simp -implicitDefEqProofs only[↓reduceIte,go_sem,Nat.reduceLT,Bool.decide_eq_true]
abbrev Zn.av(z:Zn):AV:= .agg [iA z.rows,iA z.cx,iA z.mn.kind,iA z.mn.i,sA z.mn.s,iA z.mx.kind,iA z.mx.i,sA z.mx.s]
def xB(z:Zn)(a:Atom):Bool:=
 if a.op=1 then decide (aM a.val z.mn<0)||decide (aM z.mx a.val<0)else if a.op=2 then decide (aM z.mn a.val=0)&&decide (aM z.mx a.val=0)else if a.op=3 then !decide (aM z.mn a.val<0)
 else if a.op=4 then decide (aM a.val z.mn<0)else if a.op=5 then !decide (aM a.val z.mx<0)else if a.op=6 then decide (aM z.mx a.val<0)else true
def mM(z:Zn)(a:Atom):Bool:=
 if a.op=7 then decide (z.cx=0)else if a.op=8∨z.rows≤z.cx then decide (z.rows≤z.cx)else if z.mn.kind≠a.val.kind then true else xB z a
def n4(o:Int):Int:=if o=1 then 2 else if o=2 then 1 else if o=3 then 6 else if o=4 then 5 else if o=5 then 4 else if o=6 then 3 else 0
def ri(z:Zn)(a:Atom):Bool:=
 if a.op=7 then decide (z.rows≤z.cx)else if a.op=8 then decide (z.cx=0)else if n4 a.op=0∨0<z.cx∨z.mn.kind≠a.val.kind then false else mM z ⟨a.fM,n4 a.op,a.val⟩
def nA(z:Zn)(a:Atom):Nat:=if mM z a then 0 else if ri z a then z.rows else z.rows/2+z.rows%2
theorem iw(a b:ak)(H:aa):ag Tryz.prog 80 [a.av,b.av] H (.ok (bA (decide (aM a b<0)))) H:=by
 refine ag.aj (hint:=(fun _=>false)) Tryz.func80 (by kernel_rfl) rfl [4] (by kernel_rfl) (by decide) (by simp[Tryz.ntmps80]) ?_
 rw[Tryz.ntmps80]
 simp -implicitDefEqProofs only[↓reduceIte,go_sem,ab,Nat.reduceAdd,Nat.reduceLT,Nat.reduceEqDiff]
 refine ae.ok (cj _ _ _) ?_
 simp -implicitDefEqProofs only[↓reduceIte,go_sem,Nat.reduceLT]
 refine au.ret ?_
 simp -implicitDefEqProofs only[↓reduceIte,go_sem,Nat.reduceLT]
theorem zX(z:Zn)(a:Atom)(H:aa):ag Tryz.prog 62 [z.av,a.av] H (.ok (bA (xB z a))) H:=by
 have h1:=fun H=>iw a.val z.mn H
 have h2:=fun H=>iw z.mx a.val H
 have h3:=fun H=>iw z.mn a.val H
 have h4:=fun H=>iw a.val z.mx H
 have h5:=fun H=>cj z.mn a.val H
 have h6:=fun H=>cj z.mx a.val H
 unfold xB
 generalize decide (aM a.val z.mn<0)=b1 at*
 generalize decide (aM z.mx a.val<0)=b2 at*
 generalize decide (aM z.mn a.val<0)=b3 at*
 generalize decide (aM a.val z.mx<0)=b4 at*
 generalize aM z.mn a.val=c5 at*
 generalize aM z.mx a.val=c6 at*
 obtain⟨ac,o,av⟩:=a
 simp only at h1 h2 h3 h4 h5 h6⊢
 refine ag.aj (hint:=(fun _=>false)) Tryz.func62 (by kernel_rfl) rfl [4] (by kernel_rfl) (by decide) (by simp[Tryz.ntmps62]) ?_
 rw[Tryz.ntmps62]
 simp -implicitDefEqProofs only[↓reduceIte,go_sem,ab,an,Nat.reduceAdd,Nat.reduceLT,Nat.reduceLeDiff,Nat.reduceEqDiff]
 by_cases o1:o=1
 ·simp -implicitDefEqProofs only[↓reduceIte,go_sem,ab,Nat.reduceAdd,Nat.reduceLT,Nat.reduceLeDiff,Nat.reduceEqDiff,o1]
  refine ae.ok (h1 _) ?_
  cases b1
  case' false=>
   simp -implicitDefEqProofs only[↓reduceIte,go_sem,ab,Nat.reduceAdd,Nat.reduceLT,Nat.reduceEqDiff]
   refine ae.ok (h2 _) ?_
  all_goals
   simp -implicitDefEqProofs only[↓reduceIte,go_sem,Nat.reduceLT,Nat.reduceEqDiff,reduceCtorEq]
   refine au.ret ?_
   simp -implicitDefEqProofs only[↓reduceIte,go_sem,Nat.reduceLT]<;>simp[*]
 by_cases o2:o=2
 ·simp -implicitDefEqProofs only[↓reduceIte,go_sem,ab,Nat.reduceAdd,Nat.reduceLT,Nat.reduceLeDiff,Nat.reduceEqDiff,Int.reduceEq,o2]
  refine ae.ok (h5 _) ?_
  by_cases e5:c5=0
  case' pos=>
   simp -implicitDefEqProofs only[↓reduceIte,go_sem,ab,Nat.reduceAdd,Nat.reduceLT,Nat.reduceEqDiff,e5]
   refine ae.ok (h6 _) ?_
  all_goals
   simp -implicitDefEqProofs only[↓reduceIte,go_sem,Nat.reduceLT,Nat.reduceEqDiff,reduceCtorEq,e5]
   refine au.ret ?_
   simp -implicitDefEqProofs only[↓reduceIte,go_sem,Nat.reduceLT]<;>simp[*]
 by_cases o3:o=3
 case' pos=>
  simp -implicitDefEqProofs only[↓reduceIte,go_sem,ab,Nat.reduceAdd,Nat.reduceLT,Nat.reduceLeDiff,Nat.reduceEqDiff,Int.reduceEq,o3]
  refine ae.ok (h3 _) ?_
 case' neg=>
  by_cases o4:o=4
  case' pos=>
   simp -implicitDefEqProofs only[↓reduceIte,go_sem,ab,Nat.reduceAdd,Nat.reduceLT,Nat.reduceLeDiff,Nat.reduceEqDiff,Int.reduceEq,o4]
   refine ae.ok (h1 _) ?_
  case' neg=>
   by_cases o5:o=5
   case' pos=>
    simp -implicitDefEqProofs only[↓reduceIte,go_sem,ab,Nat.reduceAdd,Nat.reduceLT,Nat.reduceEqDiff,Int.reduceEq,o5]
    refine ae.ok (h4 _) ?_
   case' neg=>
    by_cases o6:o=6
    case' pos=>
     simp -implicitDefEqProofs only[↓reduceIte,go_sem,ab,Nat.reduceAdd,Nat.reduceLT,Nat.reduceEqDiff,Int.reduceEq,o6]
     refine ae.ok (h2 _) ?_
    case' neg=>simp -implicitDefEqProofs only[↓reduceIte,go_sem,Nat.reduceLT,Nat.reduceEqDiff,o1,o2,o3,o4,o5,o6]
 all_goals
  simp -implicitDefEqProofs only[↓reduceIte,go_sem,Nat.reduceLT]
  refine au.ret ?_
  simp -implicitDefEqProofs only[↓reduceIte,go_sem,Nat.reduceLT]<;>simp[*]
theorem BC(n:Nat):((n:Int)≤0)=(n=0):=by simp
theorem lM(z:Zn)(a:Atom)(H:aa):ag Tryz.prog 42 [z.av,a.av] H (.ok (bA (mM z a))) H:=by
 have he:=fun H=>zX z a H
 unfold mM
 generalize xB z a=e at*
 obtain⟨ac,o,av⟩:=a
 simp only at he⊢
 refine ag.aj (hint:=(fun _=>false)) Tryz.func42 (by kernel_rfl) rfl [4] (by kernel_rfl) (by decide) (by simp[Tryz.ntmps42]) ?_
 rw[Tryz.ntmps42]
 simp -implicitDefEqProofs only[↓reduceIte,go_sem,ab,Nat.reduceAdd,Nat.reduceLT,Nat.reduceLeDiff,Nat.reduceEqDiff]
 by_cases o7:o=7
 case' pos=>simp -implicitDefEqProofs only[↓reduceIte,go_sem,ab,Nat.reduceAdd,Nat.reduceLT,Nat.reduceLeDiff,Nat.reduceEqDiff,o7,BC]
 case' neg=>
  by_cases o8:o=8
  case' pos=>simp -implicitDefEqProofs only[↓reduceIte,go_sem,ab,Nat.reduceAdd,Nat.reduceLT,Nat.reduceLeDiff,Nat.reduceEqDiff,Int.reduceEq,o8]
  case' neg=>
   by_cases hb:z.rows≤z.cx
   case' pos=>simp -implicitDefEqProofs only[↓reduceIte,go_sem,ab,Nat.reduceAdd,Nat.reduceLT,Nat.reduceLeDiff,Nat.reduceEqDiff,reduceCtorEq,o7,o8,hb]
   case' neg=>
    simp -implicitDefEqProofs only[↓reduceIte,go_sem,ab,Nat.reduceAdd,Nat.reduceLT,Nat.reduceLeDiff,Nat.reduceEqDiff,reduceCtorEq,o7,o8,hb]
    by_cases hk:z.mn.kind=av.kind
    case' pos=>
     simp -implicitDefEqProofs only[↓reduceIte,go_sem,ab,Nat.reduceAdd,Nat.reduceLT,Nat.reduceEqDiff,eq_true hk]
     refine ae.ok (he _) ?_
     simp -implicitDefEqProofs only[↓reduceIte,go_sem,Nat.reduceLT,Nat.reduceEqDiff,reduceCtorEq,eq_true hk]
    case' neg=>simp -implicitDefEqProofs only[↓reduceIte,go_sem,Nat.reduceLT,Nat.reduceEqDiff,eq_false hk]
 all_goals
  refine au.ret ?_
  simp -implicitDefEqProofs only[↓reduceIte,go_sem,Nat.reduceLT]<;>simp[*]
theorem sG(o:Int)(H:aa):ag Tryz.prog 96 [iA o] H (.ok (iA (n4 o))) H:=by
 refine ag.aj (hint:=(fun _=>false)) Tryz.func96 (by kernel_rfl) rfl [2] (by kernel_rfl) (by decide) (by simp[Tryz.ntmps96]) ?_
 rw[Tryz.ntmps96]
 simp -implicitDefEqProofs only[↓reduceIte,go_sem,an,Nat.reduceAdd,Nat.reduceLT,Nat.reduceLeDiff,Nat.reduceEqDiff,reduceCtorEq]
 by_cases h0:o<0
 case' pos=>simp -implicitDefEqProofs only[↓reduceIte,go_sem,Nat.reduceLT,Nat.reduceEqDiff,h0]
 case' neg=>
  by_cases h7:7≤o
  case' pos=>simp -implicitDefEqProofs only[↓reduceIte,go_sem,Nat.reduceLT,Nat.reduceEqDiff,reduceCtorEq,h0,h7]
  case' neg=>
   obtain⟨n,rfl⟩:=Int.eq_ofNat_of_zero_le (show 0≤o by omega)
   rcases n with _|_|_|_|_|_|_|n
   case' succ.succ.succ.succ.succ.succ.succ=>omega
   all_goals simp -implicitDefEqProofs only[↓reduceIte,go_sem,ab,Nat.reduceAdd,Nat.reduceLT,Nat.reduceLeDiff,Nat.reduceEqDiff,Int.reduceLE,Int.reduceLT,Int.reduceToNat,reduceCtorEq]
 all_goals
  refine au.ret ?_
  simp -implicitDefEqProofs only[↓reduceIte,go_sem,Nat.reduceAdd,Nat.reduceLT]<;>first|rfl|(unfold n4;repeat rw[if_neg (by omega)])
theorem wT(z:Zn)(a:Atom)(H:aa):ag Tryz.prog 79 [z.av,a.av] H (.ok (bA (ri z a))) H:=by
 have he:=fun H=>lM z ⟨a.fM,n4 a.op,a.val⟩ H
 have ht:=fun H=>sG a.op H
 unfold ri
 generalize mM z ⟨a.fM,n4 a.op,a.val⟩=e at*
 obtain⟨ac,o,av⟩:=a
 simp only at he ht⊢
 generalize n4 o=t at*
 refine ag.aj (hint:=(fun _=>false)) Tryz.func79 (by kernel_rfl) rfl [4] (by kernel_rfl) (by decide) (by simp[Tryz.ntmps79]) ?_
 rw[Tryz.ntmps79]
 simp -implicitDefEqProofs only[↓reduceIte,go_sem,ab,Nat.reduceAdd,Nat.reduceLT,Nat.reduceLeDiff,Nat.reduceEqDiff]
 by_cases o7:o=7
 case' pos=>simp -implicitDefEqProofs only[↓reduceIte,go_sem,ab,Nat.reduceAdd,Nat.reduceLT,Nat.reduceLeDiff,Nat.reduceEqDiff,o7]
 case' neg=>
  by_cases o8:o=8
  case' pos=>simp -implicitDefEqProofs only[↓reduceIte,go_sem,ab,Nat.reduceAdd,Nat.reduceLT,Nat.reduceLeDiff,Nat.reduceEqDiff,Int.reduceEq,o8,BC]
  case' neg=>
   simp -implicitDefEqProofs only[↓reduceIte,go_sem,ab,Nat.reduceAdd,Nat.reduceLT,Nat.reduceLeDiff,Nat.reduceEqDiff,o7,o8]
   refine ae.ok (ht _) ?_
   by_cases h0:t=0
   case' pos=>simp -implicitDefEqProofs only[↓reduceIte,go_sem,Nat.reduceLT,Nat.reduceEqDiff,h0]
   case' neg=>
    by_cases hn:0<(z.cx:Int)
    case' pos=>simp -implicitDefEqProofs only[↓reduceIte,go_sem,ab,Nat.reduceAdd,Nat.reduceLT,Nat.reduceLeDiff,Nat.reduceEqDiff,reduceCtorEq,h0,hn]
    case' neg=>
     by_cases hk:z.mn.kind=av.kind
     case' pos=>
      simp -implicitDefEqProofs only[↓reduceIte,go_sem,ab,an,Nat.reduceAdd,Nat.reduceLT,Nat.reduceLeDiff,Nat.reduceEqDiff,reduceCtorEq,h0,hn,eq_true hk]
      refine ae.ok (he _) ?_
     case' neg=>simp -implicitDefEqProofs only[↓reduceIte,go_sem,ab,Nat.reduceAdd,Nat.reduceLT,Nat.reduceLeDiff,Nat.reduceEqDiff,reduceCtorEq,h0,hn,eq_false hk]
 all_goals
  simp -implicitDefEqProofs only[↓reduceIte,go_sem,Nat.reduceLT]
  refine au.ret ?_
  simp -implicitDefEqProofs only[↓reduceIte,go_sem,Nat.reduceLT]<;>(try simp only[o7,o8,if_false])<;>simp_all
theorem zk(z:Zn)(a:Atom)(hz:z.rows≤1000000000)(H:aa):ag Tryz.prog 60 [z.av,a.av] H (.ok (iA (nA z a))) H:=by
 have h1:=fun H=>lM z a H
 have h2:=fun H=>wT z a H
 unfold nA
 generalize mM z a=b1 at*
 generalize ri z a=b2 at*
 have e1:IntKind.i64.wrap (IntKind.i64.wrap ((z.rows:Int).tdiv 2)+max ((z.rows:Int).tmod 2) 0)=((z.rows/2+z.rows%2:Nat):Int):=by
  rw[Int.tmod_eq_emod_of_nonneg (by omega),Int.tdiv_eq_ediv_of_nonneg (by omega),wrap64_in ((z.rows:Int)/2) (by omega) (by omega),wrap64_in _ (by omega) (by omega)];omega
 refine ag.aj (hint:=(fun _=>false)) Tryz.func60 (by kernel_rfl) rfl [4] (by kernel_rfl) (by decide) (by simp[Tryz.ntmps60]) ?_
 rw[Tryz.ntmps60]
 simp -implicitDefEqProofs only[↓reduceIte,go_sem,ab,Nat.reduceAdd,Nat.reduceLT,Nat.reduceEqDiff]
 refine ae.ok (h1 _) ?_
 cases b1
 case' false=>
  simp -implicitDefEqProofs only[↓reduceIte,go_sem,ab,Nat.reduceAdd,Nat.reduceLT,Nat.reduceEqDiff]
  refine ae.ok (h2 _) ?_
  cases b2
 all_goals
  simp -implicitDefEqProofs only[↓reduceIte,go_sem,ab,Nat.reduceAdd,Nat.reduceLT,Nat.reduceLeDiff,Nat.reduceEqDiff,Int.reduceEq]
  refine au.ret ?_
  simp -implicitDefEqProofs only[↓reduceIte,go_sem,Nat.reduceLT,reduceCtorEq,e1]<;>simp
def Zn.ds(z:Zn):List D:=[iD z.rows,iD z.cx,iD z.mn.kind,iD z.mn.i,.v (.string z.mn.s),iD z.mx.kind,iD z.mx.i,.v (.string z.mx.s)]
def ct:List (List Sg)→Nat
 |[]=>0
 |l::_=>l.length
def eP(l:List Sg)(k:Nat):Zn:=(l.map (·.gn)).getD k uY
def bZ(S:List (List Sg))(at':Int):List Zn:=if at'<0∨(ct S:Int)≤at' then[]else S.map fun l=>eP l at'.toNat
structure Pj.Ok (p:Pj):Prop where
 aW:p.aW.length≤1000000000
 len:p.cJ.length≤1000000000
 many:ct p.cJ≤1000000000
 same:∀l∈p.cJ,l.length=ct p.cJ
 small:∀l∈p.cJ,∀s∈l,s.gn.rows≤1000000000
theorem Pj.Ok.eQ{p:Pj}(hp:p.Ok){n:Int}{z:Zn}(h:z∈bZ p.cJ n):z.rows≤1000000000:=by
 unfold bZ at h
 split at h
 ·cases h
 ·obtain⟨l,hl,rfl⟩:=List.mem_map.1 h
  unfold eP
  rw[List.getD_eq_getElem?_getD,List.getElem?_map]
  cases e:l[n.toNat]? with
  |none=>simp[uY]
  |some s=>exact hp.small l hl s (List.mem_of_getElem? e)
theorem tw(p:Pj)(hp:p.Ok)(c:Int)(H:aa):ag Tryz.prog 41 [p.av,iA c] H (.ok (iA (ek c p.aW))) H:=by
 refine ag.aj (hint:=(fun _=>false)) Tryz.func41 (by kernel_rfl) rfl [4] (by kernel_rfl) (by decide) (by simp[Tryz.ntmps41]) ?_
 rw[Tryz.ntmps41]
 simp -implicitDefEqProofs only[↓reduceIte,go_sem,ab,Nat.reduceAdd,Nat.reduceLT,Nat.reduceLeDiff,Nat.reduceEqDiff,Pj.av,Pj.ds]
 refine ae.ok (jy p.aW c false _ (by have:=hp.aW;omega)) ?_
 simp -implicitDefEqProofs only[↓reduceIte,go_sem,Nat.reduceLT]
 refine au.ret ?_
 simp -implicitDefEqProofs only[↓reduceIte,go_sem,Nat.reduceLT]
theorem Ai{S:List (List Sg)}{k:Nat}(h:k<S.length):(cl S)[k]?=some [.list false (S[k].map Sg.ds)]:=by simp[cl,h]
theorem tI(p:Pj)(H:aa):ag Tryz.prog 39 [p.av] H (.ok (iA (ct p.cJ))) H:=by
 obtain⟨cs,key,rows,S⟩:=p
 refine ag.aj (hint:=(fun _=>false)) Tryz.func39 (by kernel_rfl) rfl [2] (by kernel_rfl) (by decide) (by simp[Tryz.ntmps39]) ?_
 rw[Tryz.ntmps39]
 cases S with
 |nil=>
  simp -implicitDefEqProofs only[↓reduceIte,go_sem,ab,Nat.reduceAdd,Nat.reduceLT,Nat.reduceEqDiff,Pj.av,Pj.ds,cl]
  refine au.ret ?_
  simp -implicitDefEqProofs only[↓reduceIte,go_sem,Nat.reduceLT,ct]
 |cons l S=>
  simp -implicitDefEqProofs only[↓reduceIte,go_sem,ab,Nat.reduceAdd,Nat.reduceLT,Nat.reduceEqDiff,Int.reduceLE,Int.reduceToNat,Pj.av,Pj.ds,cl,show ¬((S.length:Int)+1=0) by omega]
  refine au.ret ?_
  simp -implicitDefEqProofs only[↓reduceIte,go_sem,Nat.reduceLT,ct]
theorem iy(l:List Zn):(l.map Zn.ds).length=l.length:=by simp
theorem nJ(p:Pj)(hp:p.Ok)(n:Int)(hn:jU n)(H:aa):ag Tryz.prog 19 [p.av,iA n] H (.ok (.d (.list false ((bZ p.cJ n).map Zn.ds)))) H:=by
 have hg:=fun H=>tI p H
 have hm:=hp.many
 have hl:=hp.len
 have hs:=hp.same
 unfold bZ
 by_cases h:n<0∨(ct p.cJ:Int)≤n
 ·rw[if_pos h]
  suffices hh:ag Tryz.prog 19 [p.av,iA n] H (.ok (.d (.v (.slice none 0 0)))) H from hh.F8 .nil
  obtain⟨cs,key,rows,S⟩:=p
  simp only at*
  generalize ct S=g at*
  refine ag.aj (hint:=(fun _=>false)) Tryz.func19 (by kernel_rfl) rfl [4] (by kernel_rfl) (by decide) (by simp[Tryz.ntmps19]) ?_
  rw[Tryz.ntmps19]
  by_cases h0:n<0
  case' pos=>simp -implicitDefEqProofs only[↓reduceIte,go_sem,Nat.reduceAdd,Nat.reduceLT,Nat.reduceEqDiff,Pj.av,Pj.ds,h0]
  case' neg=>
   simp -implicitDefEqProofs only[↓reduceIte,go_sem,ab,Nat.reduceAdd,Nat.reduceLT,Nat.reduceEqDiff,Pj.av,Pj.ds,h0]
   refine ae.ok (hg _) ?_
   simp -implicitDefEqProofs only[↓reduceIte,go_sem,Nat.reduceLT,Nat.reduceEqDiff,reduceCtorEq,show(g:Int)≤n by omega]
  all_goals
   refine au.ret ?_
   simp -implicitDefEqProofs only[↓reduceIte,go_sem,Nat.reduceLT]
 rw[if_neg h]
 obtain⟨k,rfl⟩:=Int.eq_ofNat_of_zero_le (show 0≤n by omega)
 obtain⟨cs,key,rows,S⟩:=p
 simp only at*
 generalize ct S=g at*
 refine ag.aj (hint:=(fun _=>false)) Tryz.func19 (by kernel_rfl) rfl [4] (by kernel_rfl) (by decide) (by simp[Tryz.ntmps19]) ?_
 rw[Tryz.ntmps19]
 simp -implicitDefEqProofs only[↓reduceIte,go_sem,ab,Nat.reduceAdd,Nat.reduceLT,Nat.reduceEqDiff,Pj.av,Pj.ds,show ¬(k:Int)<0 by omega]
 refine ae.ok (hg _) ?_
 simp -implicitDefEqProofs only[↓reduceIte,go_sem,ab,Nat.reduceAdd,Nat.reduceLT,Nat.reduceEqDiff,reduceCtorEq,show ¬(g:Int)≤k by omega,zo]
 refine aO (fun j s H'=>H'=H++[.box 49 4 0 1 [.d (.list false (ints cs)),.d (.list false (ints key)),iA rows,.d (.list false (cl S))],.arr 87 8 j (((S.take j).map fun l=>eP l k).map Zn.ds)]∧s 1=iA k∧s 5= .sl (H.length+1) j 0 j∧s 17= .d (.list false (cl S))∧s 18=iA S.length∧s 19=iA j) S.length (by omega) (al.gB _ _ 5 87 8 (by decide) (by simp -implicitDefEqProofs only[↓reduceIte,go_sem,Nat.reduceLT,Nat.reduceEqDiff]) _) ?_ ?_ ?_
 ·refine⟨?_,?_⟩
  ·simp -implicitDefEqProofs only[go_sem,List.take_zero]
  ·simp -implicitDefEqProofs only[↓reduceIte,go_sem,Nat.reduceLT,Nat.reduceEqDiff]
 ·rintro j s H' hj hw ⟨rfl,t1,t5,t17,t18,t19⟩
  have hx:=Ai hj
  have hlj:=hs S[j] (List.getElem_mem hj)
  have e1:((S.take (j+1)).map fun l=>eP l k).map Zn.ds=((S.take j).map fun l=>eP l k).map Zn.ds++[(eP S[j] k).ds]:=by rw[List.take_succ_eq_append_getElem hj,List.map_append,List.map_append];rfl
  have e2:(((S.take j).map fun l=>eP l k).map Zn.ds).length=j:=by simp;omega
  have hk:k<S[j].length:=by omega
  have hz:(S[j].map Sg.ds)[k]?=some S[j][k].ds:=by simp[hk]
  have hze:eP S[j] k=S[j][k].gn:=by simp[eP,hk]
  rw[e1,hze]
  generalize ((S.take j).map fun l=>eP l k).map Zn.ds=Z at*
  generalize S[j][k]=sg at*
  generalize S[j]=l at*
  obtain⟨sk,sw,⟨zr,zn,mn,mx⟩,ns,bd⟩:=sg
  simp -implicitDefEqProofs only[↓reduceIte,go_sem,Nat.reduceAdd,Nat.reduceLT,Nat.reduceLeDiff,Nat.reduceEqDiff,t1,t5,t17,t18,t19,hj,hx,hz,Sg.ds,iD,e2]
  refine⟨by omega,by omega,c7.same ⟨rfl,?_⟩⟩
  simp -implicitDefEqProofs only[↓reduceIte,go_sem,Nat.reduceLT,Nat.reduceEqDiff,t1,t17,t18,hw]
 ·rintro s H' ⟨rfl,t1,t5,t17,t18,t19⟩
  rw[List.take_length]at*
  simp -implicitDefEqProofs only[↓reduceIte,go_sem,Nat.reduceLT,Nat.reduceEqDiff,t18,t19,t5]
  refine au.ret ?_
  simp -implicitDefEqProofs only[↓reduceIte,go_sem,Nat.reduceLT,List.take_of_length_le (show((S.map fun l=>eP l k).map Zn.ds).length≤S.length by simp)]
theorem pO{H:aa}{i:Nat}{o:az}(h:H[i]?=some o)(T:aa):(H++T)[i]?=some o:=by rw[List.getElem?_append_left (ai h)];exact h
def nm(p:Pj)(Z:List Zn)(l:List Atom):Bool:=l.any fun a=>decide (0≤ek a.fM p.aW∧ek a.fM p.aW<Z.length)&&mM (Z.getD (ek a.fM p.aW).toNat uY) a
theorem uh(p:Pj)(hp:p.Ok)(Z:List Zn)(hZ:Z.length≤1000000000)(a:Atom)(i j:Nat)(H:aa)(hi:H[i]?=some (.box 49 4 0 1 (p.ds.map .d)))(hj:H[j]?=some (.box 57 1 0 1 [.d (.list false (Z.map Zn.ds))])):
  ag Tryz.prog 40 [a.av,.ptr i 0 0 0,.ptr j 0 0 0] H (.ok (bA (decide (0≤ek a.fM p.aW∧ek a.fM p.aW<Z.length)&&mM (Z.getD (ek a.fM p.aW).toNat uY) a))) H:=by
 have hpl:=fun H=>tw p hp a.fM H
 have hc:=hp.aW
 have hi2:=fun T=>pO hi T
 have hj2:=fun T=>pO hj T
 have hle:ek a.fM p.aW<p.aW.length:=by
  unfold ek
  split
  ·rename_i h;have:=List.idxOf_lt_length_of_mem h;omega
  ·omega
 generalize ek a.fM p.aW=x at*
 refine ag.aj (hint:=(fun _=>false)) Tryz.func40 (by kernel_rfl) rfl [4] (by kernel_rfl) (by decide) (by simp[Tryz.ntmps40]) ?_
 rw[Tryz.ntmps40]
 simp -implicitDefEqProofs only[↓reduceIte,go_sem,ab,Nat.reduceAdd,Nat.reduceLT,Nat.reduceLeDiff,Nat.reduceEqDiff,hi2,Pj.ds]
 refine ae.ok (hpl _) ?_
 simp -implicitDefEqProofs only[↓reduceIte,go_sem,Nat.reduceLT]
 refine aQ K.mixed (by kernel_rfl) ?_
 by_cases h0:x<0
 ·simp -implicitDefEqProofs only[↓reduceIte,go_sem,Nat.reduceLT,Nat.reduceEqDiff,reduceCtorEq,show ¬(0:Int)≤x by omega]
  refine au.ret ?_
  simp -implicitDefEqProofs only[↓reduceIte,go_sem,Nat.reduceLT,show ¬(0:Int)≤x by omega,false_and,Bool.false_and,decide_false]
 obtain⟨k,rfl⟩:=Int.eq_ofNat_of_zero_le (show 0≤x by omega)
 by_cases hk:k<Z.length
 ·have hz:(Z.map Zn.ds)[k]?=some Z[k].ds:=by simp[hk]
  have hzd:Z.getD k uY=Z[k]:=by simp[hk]
  have hno:=fun H=>lM Z[k] a H
  simp only[Int.toNat_natCast]
  rw[hzd]
  generalize Z[k]=z at*
  simp -implicitDefEqProofs only[↓reduceIte,go_sem,ab,Nat.reduceAdd,Nat.reduceLT,Nat.reduceEqDiff,hj2,hk,hz,Zn.ds,iD,iy]
  refine ae.ok (hno _) ?_
  simp -implicitDefEqProofs only[↓reduceIte,go_sem,Nat.reduceLT,Nat.reduceEqDiff]
  refine au.ret ?_
  simp -implicitDefEqProofs only[↓reduceIte,go_sem,Nat.reduceLT,hk,true_and,decide_true,Bool.true_and]
 ·simp -implicitDefEqProofs only[↓reduceIte,go_sem,ab,Nat.reduceLT,Nat.reduceEqDiff,reduceCtorEq,hj2,hk,iy]
  refine au.ret ?_
  simp -implicitDefEqProofs only[↓reduceIte,go_sem,Nat.reduceLT,hk,and_false,decide_false,Bool.false_and]
theorem vo(p:Pj)(hp:p.Ok)(l:List Atom)(n1:Bool)(hl:l.length≤1000000000)(n:Int)(hn:jU n)(H:aa):ag Tryz.prog 20 [p.av,.d (.list n1 (l.map Atom.enc)),iA n] H (.ok (bA (nm p (bZ p.cJ n) l))) H:=by
 have hg:=fun H=>nJ p hp n hn H
 have hZ:(bZ p.cJ n).length≤1000000000:=by unfold bZ;split;simp;simp;exact hp.len
 generalize bZ p.cJ n=Z at*
 refine ag.aj (hint:=(fun _=>false)) Tryz.func20 (by kernel_rfl) rfl [6] (by kernel_rfl) (by decide) (by simp[Tryz.ntmps20]) ?_
 rw[Tryz.ntmps20]
 simp -implicitDefEqProofs only[↓reduceIte,go_sem,ab,Nat.reduceAdd,Nat.reduceLT,Nat.reduceEqDiff,Pj.av,Pj.ds]
 refine ae.ok (hg _) ?_
 simp -implicitDefEqProofs only[↓reduceIte,go_sem,an,Nat.reduceLT,Nat.reduceEqDiff]
 refine ae.ok (fo l _ _ _ n1 _ (by omega) fun a _=>uh p hp Z hZ a _ _ _ (by simp[Pj.ds]) (by simp)) ?_
 simp -implicitDefEqProofs only[↓reduceIte,go_sem,Nat.reduceLT]
 refine au.ret ?_
 simp -implicitDefEqProofs only[↓reduceIte,go_sem,Nat.reduceLT,nm]
theorem o9(z:Zn)(v:ak):(aT z v).rows=z.rows:=by
 unfold aT
 split
 ·rfl
 ·unfold iT;split<;>(unfold iP;split<;>(unfold iO;split<;>rfl))
theorem uZ(l:List ak):(pS l).rows=l.length:=by
 have:∀(m:List ak) (z:Zn),(m.foldl aT z).rows=z.rows:=by
  intro m
  induction m with
  |nil=>exact fun z=>rfl
  |cons v m ih=>exact fun z=>(ih _).trans (o9 z v)
 exact this l _
theorem wK{l:List ak}{k w:Int}(h:(ka l k w).2=0):(ka l k w).1.gn=pS l:=by
 unfold ka at h⊢
 split
 ·rename_i h1;rw[if_pos h1]at h;exact absurd h h1
 ·rename_i h1
  rw[if_neg h1]at h
  split
  ·rename_i h2;rw[if_pos h2]at h;cases h
  ·rename_i h2
   rw[if_neg h2]at h
   split
   ·rename_i h3;rw[if_pos h3]at h;exact absurd h h3
   ·rfl
theorem uk{l:List Int}(h:kq l=0):∀x∈l,x=0:=by
 intro x hx
 unfold kq at h
 cases e:l.find? fun e=>decide (e≠0)with
 |none=>have:=List.find?_eq_none.1 e x hx;simpa using this
 |some y=>
  rw[e]at h
  have:=List.find?_some e
  simp at this h
  exact absurd h this
structure oE (R:List (List ak)) (ks cs key:List Int) (w:Int) (p:Pj):Prop where
 check:cX R ks=0
 HU:¬uQ ks cs key
 pieces:∀c∈cs,∀x∈a8 (nx R key) ks w c,x.2=0
 eq:p=⟨cs,key,R.length,ez (nx R key) ks cs w⟩
theorem kI{R:List (List ak)}{ks cs key:List Int}{w:Int}(h:(eS R ks cs key w).2=0):oE R ks cs key w (eS R ks cs key w).1:=by
 unfold eS at h⊢
 split
 ·rename_i h1;rw[if_pos h1]at h;exact absurd h h1
 ·rename_i h1
  rw[if_neg h1]at h
  split
  ·rename_i h2;rw[if_pos h2]at h;cases h
  ·rename_i h2
   rw[if_neg h2]at h
   split
   ·rename_i h3;rw[if_pos h3]at h;exact absurd h h3
   ·rename_i h3
    refine⟨by simpa using h1,h2,fun c hc x hx=>?_,rfl⟩
    exact uk (Classical.not_not.1 h3) _ (List.mem_flatMap.2 ⟨c,hc,List.mem_map.2 ⟨x,hx,rfl⟩⟩)
theorem yd(R:List (List ak))(key:List Int):(nx R key).length=R.length:=St.aP _
theorem Ck(R:List (List ak))(k:Nat):(xZ R k).length=min 256 (R.length-256* k):=by simp[xZ]
theorem vl(Q:List (List ak))(ks:List Int)(w c:Int):(a8 Q ks w c).length=xU Q.length:=by simp[a8,sr]
theorem oE.Ii{R:List (List ak)}{ks cs key:List Int}{w:Int}{p:Pj}(h:oE R ks cs key w p){l:List Sg}(hl:l∈p.cJ):l.length=xU R.length∧∀(k:Nat) (hk:k<l.length),l[k].gn.rows=min 256 (R.length-256* k):=by
 rw[h.eq]at hl
 obtain⟨c,hc,rfl⟩:=List.mem_map.1 hl
 have h1:=h.pieces c hc
 refine⟨by rw[List.length_map,vl,yd],fun k hk=>?_⟩
 rw[List.length_map]at hk
 have h2:=h1 _ (List.getElem_mem hk)
 rw[List.getElem_map]
 have hk2:k<(sr (nx R key)).length:=by simpa[a8]using hk
 have e:(a8 (nx R key) ks w c)[k]=ka (iV c (xZ (nx R key) k)) (ks.getD c.toNat 0) w:=by simp[a8,sr]
 rw[e]at h2⊢
 rw[wK h2,uZ]
 simp[iV,Ck,yd]
theorem oE.many{R:List (List ak)}{ks cs key:List Int}{w:Int}{p:Pj}(h:oE R ks cs key w p):ct p.cJ=xU R.length:=by
 have h2:p.cJ.length=cs.length:=by rw[h.eq];simp[ez]
 have h3:cs.length≠0:=fun e=>h.HU (.inl e)
 cases e:p.cJ with
 |nil=>rw[e]at h2;simp at h2;omega
 |cons l S=>exact(h.Ii (l:=l) (by rw[e];simp)).1
theorem oE.ok{R:List (List ak)}{ks cs key:List Int}{w:Int}{p:Pj}(h:oE R ks cs key w p)(hc:cs.length≤1000000000):p.Ok:=by
 have hR:=(iL h.check).2.2.2.1
 refine⟨by rw[h.eq];exact hc,by rw[h.eq];simpa[ez]using hc,by rw[h.many];unfold xU;omega,fun l hl=>by rw[h.many];exact(h.Ii hl).1,fun l hl s hs=>?_⟩
 obtain⟨k,hk,rfl⟩:=List.mem_iff_getElem.1 hs
 rw[(h.Ii hl).2 k hk]
 omega
def fU(l:List Int):List (Int×AV):=l.map fun k=>(k,.d (.v (.bool true)))
theorem oe(n:Int):∀(l:List Int) (i:Nat),n∈l→∃j,eR n (fU l) i=some (j,.d (.v (.bool true)))
 |[],_,h=>by simp at h
 |m::l,i,h=>by
  simp only[fU,List.map_cons,eR]
  by_cases e:n=m
  ·exact⟨i,by simp[e]⟩
  ·simp only[if_neg e]
   exact oe n l (i+1) (by simpa[e]using h)
theorem iK(n:Int):∀(l:List Int) (i:Nat),n∉l→eR n (fU l) i=none
 |[],_,_=>rfl
 |m::l,i,h=>by
  simp only[List.mem_cons,not_or]at h
  simp only[fU,List.map_cons,eR,if_neg h.1]
  exact iK n l (i+1) h.2
theorem wQ{n:Int}{l:List Int}(h:n∈l):dK n (fU l)=some (.d (.v (.bool true))):=by
 obtain⟨j,hj⟩:=oe n l 0 h
 simp[dK,hj]
theorem sa{n:Int}{l:List Int}(h:n∉l):dK n (fU l)=none:=by simp[dK,iK n l 0 h]
theorem si{n:Int}{l:List Int}(h:n∉l):jA n (.d (.v (.bool true))) (fU l)=fU (l++[n]):=by
 unfold jA
 rw[iK n l 0 h]
 simp[fU]
def tell(out:List Int)(c:Int):List Int:=if c∈out then out else out++[c]
def dW(H:aa)(q:az)(l:List Int)(ver:Nat)(T:aa):aa:=H++q:: .mp .i64 (fU l):: .box 100 1 0 1 [.mp (H.length+1)]:: .box 23 1 0 1 [.sl (H.length+4) ver 0 l.length]:: .arr 3 1 ver (ints l)::T
theorem iz(n:Int)(l:List Int)(hl:l.length≤1000000)(H:aa)(q:az)(ver:Nat)(T:aa):
  ∃ver',ag Tryz.prog 46 [iA n,.ptr (H.length+2) 0 0 0,.ptr (H.length+3) 0 0 0] (dW H q l ver T) (.ok (.aZ [])) (dW H q (tell l n) ver' T):=by
 by_cases hn:n∈l
 ·refine⟨ver,?_⟩
  refine ag.aj (hint:=(fun _=>false)) Tryz.func46 (by kernel_rfl) rfl [] (by kernel_rfl) (by decide) (by simp[Tryz.ntmps46]) ?_
  rw[Tryz.ntmps46]
  simp -implicitDefEqProofs only[↓reduceIte,go_sem,ab,Nat.reduceLT,Nat.reduceEqDiff,reduceCtorEq,dW,wQ hn,tell,hn]
  exact⟨_,al.refl _ _,rfl⟩
 ·refine⟨ver+1,?_⟩
  refine ag.aj (hint:=(fun _=>false)) Tryz.func46 (by kernel_rfl) rfl [] (by kernel_rfl) (by decide) (by simp[Tryz.ntmps46]) ?_
  rw[Tryz.ntmps46]
  simp -implicitDefEqProofs only[↓reduceIte,go_sem,ab,an,Nat.reduceLT,Nat.reduceLeDiff,Nat.reduceEqDiff,reduceCtorEq,dW,sa hn,tell,hn]
  simp -implicitDefEqProofs only[go_sem,si hn,ay,gO]
  exact⟨by omega,by omega,_,al.refl _ _,rfl⟩
def pD(a:Int×Int):List D:=[.v (.int .i64 a.1),.v (.int .i64 a.2)]
def pk(j:Int×D×D×D):List D:=[.v (.int .i64 j.1),j.2.1,j.2.2.1,j.2.2.2]
def gN(o:List Int)(a:Int×Int):List Int:=if a.1=1 then o else tell o a.2
def oR(o:List Int)(j:Int×D×D×D):List Int:=tell o j.1
def xW(aW:List Int)(cT:List (Int×Int))(bu:List (Int×D×D×D)):List Int:=bu.foldl oR (cT.foldl gN (aW.foldl tell []))
theorem dZ{α:Type}(f:List Int→α→List Int)(hf:∀o x,(f o x).length≤o.length+1):∀(l:List α) (o:List Int),(l.foldl f o).length≤o.length+l.length
 |[],o=>by simp
 |x::l,o=>by
  have:=dZ f hf l (f o x)
  have:=hf o x
  simp only[List.foldl_cons,List.length_cons];omega
theorem jO(o:List Int)(n:Int):(tell o n).length≤o.length+1:=by unfold tell;split<;>simp
theorem oQ(o:List Int)(a:Int×Int):(gN o a).length≤o.length+1:=by unfold gN;split;omega;exact jO _ _
theorem kC{α β:Type}(f:β→α→β)(o:β)(l:List α)(k:Nat)(h:k<l.length):(l.take (k+1)).foldl f o=f ((l.take k).foldl f o) l[k]:=by
 rw[List.take_succ_eq_append_getElem h,List.foldl_append];rfl
theorem yw(aW:List Int)(cT:List (Int×Int))(bu:List (Int×D×D×D))(x0 x1 x4 x6 x7:D)(n2 n3 n5:Bool)(hc:aW.length≤100000)(ha:cT.length≤100000)(hj:bu.length≤100000)(H:aa):
  ag Tryz.prog 23 [.agg [.d x0,.d x1,.d (.list n2 (bu.map pk)),.d (.list n3 (ints aW)),.d x4,.d (.list n5 (cT.map pD)),.d x6,.d x7]] H (.ok (.d (.list false (ints (xW aW cT bu))))) H:=by
 refine ag.aj (hint:=(fun _=>false)) Tryz.func23 (by kernel_rfl) rfl [2] (by kernel_rfl) (by decide) (by simp[Tryz.ntmps23]) ?_
 rw[Tryz.ntmps23]
 simp -implicitDefEqProofs only[↓reduceIte,go_sem,ab,an,Nat.reduceAdd,Nat.reduceLT,Nat.reduceLeDiff,Nat.reduceEqDiff]
 have hq:∃q,q=az.box 31 8 0 1 [.d x0,.d x1,.d (.list n2 (bu.map pk)),.d (.list n3 (ints aW)),.d x4,.d (.list n5 (cT.map pD)),.d x6,.d x7]:=⟨_,rfl⟩
 obtain⟨q,hq⟩:=hq
 have hb:∀m,q.below m=true:=by intro m;subst hq;simp -implicitDefEqProofs only[go_sem]
 rw[←hq]
 have hW:=fun s=>al.dA (H0:=H) s (H++[q,.mp .i64 [],.box 100 1 0 1 [.mp (H.length+1)],.box 23 1 0 1 [.d (.v (.slice none 0 0))]]) (H.length+3) 23 1 0 1 [.d (.v (.slice none 0 0))] 0 (.d (.v (.slice none 0 0))) 3 1 (by decide) (by simp[]) rfl rfl
 refine aO (fun k s H'=>∃ver,H'=dW H q ((aW.take k).foldl tell []) ver []∧s 1= .ptr H.length 0 0 0∧s 5= .fn 46 [.ptr (H.length+2) 0 0 0,.ptr (H.length+3) 0 0 0]∧s 15= .d (.list n3 (ints aW))∧s 16=iA aW.length∧s 17=iA k∧s 4= .ptr (H.length+3) 0 0 0) aW.length (by omega) (hW _) ?_ ?_ ?_
 ·refine⟨0,?_⟩
  simp -implicitDefEqProofs only[↓reduceIte,go_sem,Nat.reduceAdd,Nat.reduceLT,Nat.reduceEqDiff,dW,fU,oS,ay]
 ·rintro k s H' hk hw ⟨ver,rfl,h1,h5,h15,h16,h17,h4⟩
  simp -implicitDefEqProofs only[↓reduceIte,go_sem,Nat.reduceLT,Nat.reduceEqDiff,h5,h15,h16,h17,hk,ck aW k hk]
  have hl:=dZ tell jO (aW.take k) []
  have hl2:=List.length_take_le k aW
  obtain⟨ver',hd⟩:=iz aW[k] ((aW.take k).foldl tell []) (by simp at hl;omega) H q ver []
  refine ae.ok hd ?_
  simp -implicitDefEqProofs only[↓reduceIte,go_sem,Nat.reduceLT,Nat.reduceEqDiff,h17]
  refine c7.same ⟨ver',?_⟩
  simp -implicitDefEqProofs only[↓reduceIte,go_sem,Nat.reduceLT,Nat.reduceEqDiff,dW,h1,h5,h15,h16,h4,kC tell [] aW k hk,hw]
 ·rintro s H' ⟨ver,rfl,h1,h5,h15,h16,h17,h4⟩
  generalize hl1:(aW.take aW.length).foldl tell []=l1
  have hn1:=dZ tell jO (aW.take aW.length) []
  rw[hl1]at hn1
  simp -implicitDefEqProofs only[↓reduceIte,go_sem,ab,Nat.reduceAdd,Nat.reduceLT,Nat.reduceLeDiff,Nat.reduceEqDiff,h1,h16,h17,dW,hq]
  rw[←hq]
  clear h15 h16 h17
  refine aO (fun k s H'=>∃ver,H'=dW H q ((cT.take k).foldl gN l1) ver []∧s 1= .ptr H.length 0 0 0∧s 5= .fn 46 [.ptr (H.length+2) 0 0 0,.ptr (H.length+3) 0 0 0]∧s 26= .d (.list n5 (cT.map pD))∧s 27=iA cT.length∧s 28=iA k∧s 4= .ptr (H.length+3) 0 0 0) cT.length (by omega) (al.refl _ _) ?_ ?_ ?_
  ·refine⟨ver,?_⟩
   simp -implicitDefEqProofs only[↓reduceIte,go_sem,Nat.reduceLT,Nat.reduceEqDiff,dW,h1,h5,h4,List.foldl_nil]
  ·rintro k s H' hk hw ⟨ver,rfl,h1,h5,h15,h16,h17,h4⟩
   have hx:=List.getElem?_eq_getElem hk
   have hl:=dZ gN oQ (cT.take k) l1
   have hl2:=List.length_take_le k cT
   have hsn:=kC gN l1 cT k hk
   generalize cT[k]=x at hx hsn
   simp -implicitDefEqProofs only[↓reduceIte,go_sem,ab,an,Nat.reduceAdd,Nat.reduceLT,Nat.reduceLeDiff,Nat.reduceEqDiff,h15,h16,h17,hk,hx,pD,dW]
   by_cases hop:x.1=1
   ·refine dr (by simp -implicitDefEqProofs only[go_sem,hop]) ?_
    simp -implicitDefEqProofs only[↓reduceIte,go_sem,Nat.reduceLT,Nat.reduceEqDiff,h17]
    refine c7.cut [_,_,_,_,_] _ 5 rfl rfl (by simp -implicitDefEqProofs only[go_sem,Nat.reduceLT,hb,fU];simp[k9]) ⟨ver,?_⟩
    simp -implicitDefEqProofs only[↓reduceIte,go_sem,Nat.reduceLT,Nat.reduceEqDiff,dW,h1,h5,h15,h16,h4,hsn,gN,hop,hw]
   ·refine dw (by simp -implicitDefEqProofs only[go_sem,hop]) ?_
    simp -implicitDefEqProofs only[↓reduceIte,go_sem,ab,Nat.reduceAdd,Nat.reduceLT,Nat.reduceEqDiff,h5]
    obtain⟨ver',hd⟩:=iz x.2 ((cT.take k).foldl gN l1) (by simp at hl hn1;omega) H q ver [.box 103 2 0 1 [iA x.1,iA x.2]]
    refine ae.ok hd ?_
    simp -implicitDefEqProofs only[↓reduceIte,go_sem,Nat.reduceLT,Nat.reduceEqDiff,h17,dW]
    refine c7.cut [_,_,_,_,_] _ 5 rfl rfl (by simp -implicitDefEqProofs only[go_sem,Nat.reduceLT,hb,fU];simp[k9]) ⟨ver',?_⟩
    simp -implicitDefEqProofs only[↓reduceIte,go_sem,Nat.reduceLT,Nat.reduceEqDiff,h1,h5,h15,h16,h4,hsn,gN,hop,hw]
  ·rintro s H' ⟨ver,rfl,h1,h5,h15,h16,h17,h4⟩
   generalize hl2:(cT.take cT.length).foldl gN l1=l2
   have hn2:=dZ gN oQ (cT.take cT.length) l1
   rw[hl2]at hn2
   simp -implicitDefEqProofs only[↓reduceIte,go_sem,ab,Nat.reduceAdd,Nat.reduceLT,Nat.reduceLeDiff,Nat.reduceEqDiff,h1,h16,h17,dW,hq]
   rw[←hq]
   clear h15 h16 h17
   refine aO (fun k s H'=>∃ver,H'=dW H q ((bu.take k).foldl oR l2) ver []∧s 1= .ptr H.length 0 0 0∧s 5= .fn 46 [.ptr (H.length+2) 0 0 0,.ptr (H.length+3) 0 0 0]∧s 41= .d (.list n2 (bu.map pk))∧s 42=iA bu.length∧s 43=iA k∧s 4= .ptr (H.length+3) 0 0 0) bu.length (by omega) (al.refl _ _) ?_ ?_ ?_
   ·refine⟨ver,?_⟩
    simp -implicitDefEqProofs only[↓reduceIte,go_sem,Nat.reduceLT,Nat.reduceEqDiff,dW,h1,h5,h4,List.foldl_nil]
   ·rintro k s H' hk hw ⟨ver,rfl,h1,h5,h15,h16,h17,h4⟩
    have hx:=List.getElem?_eq_getElem hk
    have hl:=dZ oR (fun o j=>jO o _) (bu.take k) l2
    have hl2:=List.length_take_le k bu
    have hsn:=kC oR l2 bu k hk
    generalize bu[k]=x at hx hsn
    simp -implicitDefEqProofs only[↓reduceIte,go_sem,ab,an,Nat.reduceAdd,Nat.reduceLT,Nat.reduceLeDiff,Nat.reduceEqDiff,h5,h15,h16,h17,hk,hx,pk,dW]
    obtain⟨ver',hd⟩:=iz x.1 ((bu.take k).foldl oR l2) (by simp at hl hn1 hn2;omega) H q ver [.box 105 4 0 1 [iA x.1,.d x.2.1,.d x.2.2.1,.d x.2.2.2]]
    refine ae.ok hd ?_
    simp -implicitDefEqProofs only[↓reduceIte,go_sem,Nat.reduceLT,Nat.reduceEqDiff,h17,dW]
    refine c7.cut [_,_,_,_,_] _ 5 rfl rfl (by simp -implicitDefEqProofs only[go_sem,Nat.reduceLT,hb,fU];simp[k9]) ⟨ver',?_⟩
    simp -implicitDefEqProofs only[↓reduceIte,go_sem,Nat.reduceLT,Nat.reduceEqDiff,h1,h5,h15,h16,h4,hsn,oR,hw]
   ·rintro s H' ⟨ver,rfl,h1,h5,h15,h16,h17,h4⟩
    simp -implicitDefEqProofs only[↓reduceIte,go_sem,ab,Nat.reduceLT,Nat.reduceEqDiff,h16,h17,h4,dW]
    refine au.ret ?_
    simp -implicitDefEqProofs only[↓reduceIte,go_sem,Nat.reduceLT]
    rw[←hl2,←hl1]
    simp[xW,cU,ay]
def fy(l:List Atom)(o:List Int):List Atom:=o.filterMap fun i=>if 0≤i then l[i.toNat]? else none
theorem tT(l:List Atom)(o:List Int)(k:Nat)(h:k<o.length):fy l (o.take (k+1))=fy l (o.take k)++(if 0≤o[k]then(l[(o[k]).toNat]?).toList else[]):=by
 unfold fy
 rw[List.take_succ_eq_append_getElem h,List.filterMap_append]
 congr 1
 by_cases h0:0≤o[k]
 ·cases hg:l[(o[k]).toNat]?<;>simp[h0,hg]
 ·simp[h0]
theorem qJ(l:List Atom)(o:List Int):(fy l o).length≤o.length:=List.length_filterMap_le _ _
theorem ui(l:List Atom)(o:List Int)(n1 n2:Bool)(H:aa)(hl:l.length≤1000000)(ho:o.length≤1000000):
  ag Tryz.prog 18 [.d (.list n1 (l.map Atom.enc)),.d (.list n2 (ints o))] H (.ok (.d (.list false ((fy l o).map Atom.enc)))) H:=by
 refine ag.aj (hint:=(fun _=>false)) Tryz.func18 (by kernel_rfl) rfl [4] (by kernel_rfl) (by decide) (by simp[Tryz.ntmps18]) ?_
 rw[Tryz.ntmps18]
 simp -implicitDefEqProofs only[↓reduceIte,go_sem,Nat.reduceLT,Nat.reduceEqDiff]
 refine aO (fun k s H'=>∃ver,H'=H++[.arr 71 5 ver ((fy l (o.take k)).map Atom.enc)]∧s 0= .d (.list n1 (l.map Atom.enc))∧s 5= .sl H.length ver 0 (fy l (o.take k)).length∧
  s 8= .d (.list n2 (ints o))∧s 9=iA o.length∧s 10=iA k) o.length (by omega) (al.gB _ _ 5 71 5 (by decide) (by simp -implicitDefEqProofs only[↓reduceIte,go_sem,Nat.reduceLT,Nat.reduceEqDiff]) _) ?_ ?_ ?_
 ·exact⟨0,by simp[fy],by simp -implicitDefEqProofs only[↓reduceIte,go_sem,reduceCtorEq],by simp[fy],by simp -implicitDefEqProofs only[↓reduceIte,go_sem,Nat.reduceLT,Nat.reduceEqDiff],by simp -implicitDefEqProofs only[↓reduceIte,go_sem,Nat.reduceLT,Nat.reduceEqDiff,ay],by simp -implicitDefEqProofs only[↓reduceIte,go_sem,Nat.reduceLT,Nat.reduceEqDiff]⟩
 ·rintro k s H' hk hw ⟨ver,rfl,h0,h5,h8,h9,h10⟩
  have hle:=qJ l (o.take k)
  have hk2:=List.length_take_le k o
  have hsn:=tT l o k hk
  have hget:=ck o k hk
  generalize o[k]=x at hget hsn
  simp -implicitDefEqProofs only[↓reduceIte,go_sem,Nat.reduceLT,Nat.reduceEqDiff,h8,h9,h10,hk,hget]
  by_cases hx0:0≤x
  ·by_cases hxl:x<l.length
   ·obtain⟨y,hy⟩:∃y,l[x.toNat]?=some y:=⟨l[x.toNat]'(by omega),by simp[show x.toNat<l.length by omega]⟩
    simp -implicitDefEqProofs only[↓reduceIte,go_sem,Nat.reduceLT,Nat.reduceEqDiff,reduceCtorEq,h0,h5,hx0,hxl,decide_true]
    simp -implicitDefEqProofs only[↓reduceIte,go_sem,Nat.reduceAdd,Nat.reduceLT,Nat.reduceLeDiff,Nat.reduceEqDiff,h10,hx0,hy,Atom.enc]
    refine⟨by omega,by omega,c7.same ⟨ver+1,?_⟩⟩
    simp -implicitDefEqProofs only[↓reduceIte,go_sem,Nat.reduceLT,Nat.reduceEqDiff,reduceCtorEq,h0,h8,h9,hsn,hx0,hy,hw,Option.toList_some,List.map_append,List.length_append,Atom.enc]
   ·simp -implicitDefEqProofs only[↓reduceIte,go_sem,Nat.reduceLT,Nat.reduceEqDiff,reduceCtorEq,h0,h10,hx0,hxl]
    have hn:l[x.toNat]?=none:=List.getElem?_eq_none (by omega)
    refine c7.same ⟨ver,?_⟩
    simp -implicitDefEqProofs only[↓reduceIte,go_sem,Nat.reduceLT,Nat.reduceEqDiff,reduceCtorEq,h0,h5,h8,h9,hsn,hx0,hn,hw,Option.toList_none,List.append_nil]
  ·simp -implicitDefEqProofs only[↓reduceIte,go_sem,Nat.reduceLT,Nat.reduceEqDiff,reduceCtorEq,h10,hx0]
   refine c7.same ⟨ver,?_⟩
   simp -implicitDefEqProofs only[↓reduceIte,go_sem,Nat.reduceLT,Nat.reduceEqDiff,reduceCtorEq,h0,h5,h8,h9,hsn,hx0,hw,List.append_nil]
 ·rintro s H' ⟨ver,rfl,h0,h5,h8,h9,h10⟩
  simp -implicitDefEqProofs only[↓reduceIte,go_sem,Nat.reduceLT,Nat.reduceEqDiff,h9,h10,h5]
  refine au.ret ?_
  simp -implicitDefEqProofs only[↓reduceIte,go_sem,Nat.reduceLT]
  simp[cU]
def fQ(a b:Nat):Nat:=if a+b<18446744073709551616 then a+b else 18446744073709551615
def so(a b:Nat):Nat:=if a* b<18446744073709551616 then a* b else 18446744073709551615
theorem wG(a b:Nat)(ha:a<18446744073709551616)(hb:b<18446744073709551616)(H:aa):
  ag Tryz.prog 58 [du a,du b,.d (.v (.int .u64 0))] H (.ok (.aZ [du ((a+b)%18446744073709551616),du ((a+b)/18446744073709551616)])) H:=by
 intro φ N w vals hR hA
 have hv:=pE.closed [.int .u64 (a:Int),.int .u64 (b:Int),.int .u64 0] hA
 subst hv
 refine .inr ⟨.tuple #[.int .u64 (((a+b)%18446744073709551616:Nat):Int),.int .u64 (((a+b)/18446744073709551616:Nat):Int)],w,?_,φ,N,hR,ar.refl,?_⟩
 ·rw[run_callFunc_extern (e:=add64Entry) Tryz.func58 (by kernel_rfl) (by kernel_rfl) (by kernel_rfl) (by kernel_rfl),run_add64 a b 0 (by omega) (by omega) (by omega) (by omega)]
  simp only[Result.andThen]
  congr 5<;>omega
 ·refine .aZ _ _ rfl fun i h1 h2=>?_
  match i,h1 with
  |0,_=>exact .d (.v _ rfl)
  |1,_=>exact .d (.v _ rfl)
theorem gJ(a b:Nat)(ha:a<18446744073709551616)(hb:b<18446744073709551616)(H:aa):
  ag Tryz.prog 34 [du a,du b] H (.ok (du (fQ a b))) H:=by
 refine ag.aj (hint:=(fun _=>false)) Tryz.func34 (by kernel_rfl) rfl [4] (by kernel_rfl) (by decide) (by simp[Tryz.ntmps34]) ?_
 rw[Tryz.ntmps34]
 simp -implicitDefEqProofs only[↓reduceIte,go_sem,Nat.reduceLT,Nat.reduceEqDiff,reduceCtorEq,du]
 refine ae.ok (wG a b ha hb H) ?_
 simp -implicitDefEqProofs only[↓reduceIte,go_sem,Nat.reduceLT,Nat.reduceEqDiff,du]
 by_cases h:a+b<18446744073709551616
 ·have h0:((a+b)/18446744073709551616)=0:=by omega
  refine dr (by simp -implicitDefEqProofs only[go_sem,h0]) ?_
  simp -implicitDefEqProofs only[↓reduceIte,go_sem,Nat.reduceLT,Nat.reduceEqDiff]
  refine au.aV ?_
  simp -implicitDefEqProofs only[↓reduceIte,go_sem,Nat.reduceLT,fQ,du,if_pos h,Nat.mod_eq_of_lt h]
 ·have h0:((a+b)/18446744073709551616)=1:=by omega
  refine dw (by simp -implicitDefEqProofs only[go_sem,Int.reduceEq,h0]) ?_
  simp -implicitDefEqProofs only[go_sem]
  refine au.aV ?_
  simp -implicitDefEqProofs only[↓reduceIte,go_sem,Nat.reduceLT,fQ,du,if_neg h]
  try rfl
theorem A5(a:Nat)(ha:a<18446744073709551616):IntKind.u64.wrap (BA .u64 (a:Int) 4294967295)=((a%4294967296:Nat):Int):=by
 have h:=bits_and_u64_nat a 4294967295 ha (by omega)
 have e:a&&&4294967295=a%4294967296:=Nat.and_two_pow_sub_one_eq_mod a 32
 rw[e]at h
 exact h
theorem HB(a:Nat):kK .u64 (a:Int) 32=((a/4294967296:Nat):Int):=by
 show(a:Int).fdiv (4294967296:Int)=_
 rw[Int.fdiv_eq_ediv_of_nonneg _ (by omega)]
 omega
theorem mN(a:Nat)(ha:a<18446744073709551616):IntKind.u64.wrap (a:Int)=(a:Int):=cP _ (by omega) (by omega)
theorem GU(a:Nat):IntKind.u64.wrap (a:Int)=((a%18446744073709551616:Nat):Int):=by
 simp[IntKind.wrap,IntKind.signed,IntKind.bits]
theorem wz(x y:Nat)(hx:x<18446744073709551616)(hy:y<18446744073709551616)(H:aa):
  ag Tryz.prog 59 [du x,du y] H (.ok (.aZ [du (x* y/18446744073709551616),du (x* y%18446744073709551616)])) H:=by
 obtain⟨bd,bt,bw,hhi⟩:=Lib.mul64_hi x y hx hy
 have ba:=Lib.half_mul_le (a:=x/4294967296) (b:=y/4294967296) (by omega) (by omega)
 have bb:=Lib.half_mul_le (a:=x/4294967296) (b:=y%4294967296) (by omega) (by omega)
 have bc:=Lib.half_mul_le (a:=x%4294967296) (b:=y/4294967296) (by omega) (by omega)
 have ba':x/4294967296* (y/4294967296)<18446744073709551616:=by omega
 have bb':x/4294967296* (y%4294967296)<18446744073709551616:=by omega
 have bc':x%4294967296* (y/4294967296)<18446744073709551616:=by omega
 have bh1:x/4294967296* (y/4294967296)+(x/4294967296* (y%4294967296)+x%4294967296* (y%4294967296)/4294967296)/4294967296<18446744073709551616:=by omega
 have bh:x/4294967296* (y/4294967296)+(x/4294967296* (y%4294967296)+x%4294967296* (y%4294967296)/4294967296)/4294967296+((x/4294967296* (y%4294967296)+x%4294967296* (y%4294967296)/4294967296)%4294967296+x%4294967296* (y/4294967296))/4294967296<18446744073709551616:=by omega
 refine ag.aj (hint:=(fun _=>false)) Tryz.func59 (by kernel_rfl) rfl [4,5] (by kernel_rfl) (by decide) (by simp[Tryz.ntmps59]) ?_
 rw[Tryz.ntmps59]
 simp -implicitDefEqProofs only[↓reduceIte,go_sem,Nat.reduceLT,Nat.reduceEqDiff,Int.reduceLE,reduceCtorEq,du]
 refine au.aV ?_
 simp -implicitDefEqProofs only[↓reduceIte,go_sem,Nat.reduceLT,Nat.reduceEqDiff]
 simp only[A5 x hx,A5 y hy,HB,←Int.natCast_mul,←Int.natCast_add,mN _ bd,mN _ bb',mN _ bt,A5 _ bt,mN _ bc',mN _ bw,mN _ ba',mN _ bh1,GU (x* y),hhi]
 rw[mN _ (by rw[←hhi];exact bh)]
theorem oK(a b:Nat)(ha:a<18446744073709551616)(hb:b<18446744073709551616)(H:aa):
  ag Tryz.prog 35 [du a,du b] H (.ok (du (so a b))) H:=by
 refine ag.aj (hint:=(fun _=>false)) Tryz.func35 (by kernel_rfl) rfl [4] (by kernel_rfl) (by decide) (by simp[Tryz.ntmps35]) ?_
 rw[Tryz.ntmps35]
 simp -implicitDefEqProofs only[↓reduceIte,go_sem,Nat.reduceLT,Nat.reduceEqDiff,reduceCtorEq,du]
 refine ae.ok (wz a b ha hb H) ?_
 unfold so
 have hab:a* b=a* b:=rfl
 generalize a* b=p at hab⊢
 simp -implicitDefEqProofs only[↓reduceIte,go_sem,Nat.reduceLT,Nat.reduceEqDiff,du]
 by_cases h:p<18446744073709551616
 ·have h0:(p/18446744073709551616)=0:=by omega
  refine dr (by simp -implicitDefEqProofs only[go_sem,h0]) ?_
  simp -implicitDefEqProofs only[↓reduceIte,go_sem,Nat.reduceLT,Nat.reduceEqDiff]
  refine au.aV ?_
  simp -implicitDefEqProofs only[↓reduceIte,go_sem,Nat.reduceLT,du,if_pos h,Nat.mod_eq_of_lt h]
 ·have h0:0<(p/18446744073709551616):=by omega
  refine dw (by congr 3;simp;omega) ?_
  simp -implicitDefEqProofs only[go_sem]
  refine au.aV ?_
  simp -implicitDefEqProofs only[↓reduceIte,go_sem,Nat.reduceLT,du,if_neg h]
  try rfl
structure Qu where
 table:D
 pred:List Atom
 bu:List (Int×D×D×D)
 aW:List Int
 group:D
 cT:List (Int×Int)
 order:D
 xG:D
def Qu.ds(q:Qu):List D:=[q.table,.list false (q.pred.map Atom.enc),.list false (q.bu.map pk),.list false (ints q.aW),q.group,.list false (q.cT.map pD),q.order,q.xG]
def Qu.av(q:Qu):AV:= .agg (q.ds.map .d)
def Qu.gk(q:Qu):List Int:=xW q.aW q.cT q.bu
structure Qu.Ok (q:Qu):Prop where
 pred:q.pred.length≤100
 bu:q.bu.length≤100
 aW:q.aW.length≤100
 cT:q.cT.length≤100
structure Pl where
 proj:Int
 late:Bool
 order:List Int
 rep:Int
 range:Bool
deriving DecidableEq
def Pl.ds(p:Pl):List D:=[iD p.proj,.v (.bool p.late),.list false (ints p.order),iD p.rep,.v (.bool p.range)]
def Pl.av(p:Pl):AV:= .agg (p.ds.map .d)
theorem ib(q:Qu)(hq:q.Ok)(H:aa):ag Tryz.prog 23 [q.av] H (.ok (.d (.list false (ints q.gk)))) H:=
 yw q.aW q.cT q.bu _ _ _ _ _ _ _ _ (by have:=hq.aW;omega) (by have:=hq.cT;omega) (by have:=hq.bu;omega) H
theorem Qu.m8(q:Qu)(hq:q.Ok):q.gk.length≤300:=by
 have h1:=dZ tell jO q.aW []
 have h2:=dZ gN oQ q.cT (q.aW.foldl tell [])
 have h3:=dZ oR (fun o j=>jO o _) q.bu (q.cT.foldl gN (q.aW.foldl tell []))
 have:=hq.aW;have:=hq.cT;have:=hq.bu
 unfold Qu.gk xW
 simp at h1
 omega
theorem tZ(a:Atom)(c:Int)(i:Nat)(H:aa)(hi:H[i]?=some (.box 3 1 0 1 [iA c])):ag Tryz.prog 61 [a.av,.ptr i 0 0 0] H (.ok (bA (decide (a.fM=c)))) H:=by
 have hi2:=fun T=>pO hi T
 refine ag.aj (hint:=(fun _=>false)) Tryz.func61 (by kernel_rfl) rfl [3] (by kernel_rfl) (by decide) (by simp[Tryz.ntmps61]) ?_
 rw[Tryz.ntmps61]
 simp -implicitDefEqProofs only[↓reduceIte,go_sem,ab,Nat.reduceAdd,Nat.reduceLT,Nat.reduceLeDiff,Nat.reduceEqDiff,hi2]
 refine au.ret ?_
 simp -implicitDefEqProofs only[↓reduceIte,go_sem,Nat.reduceLT]
def asked(q:Qu)(c:Int):Bool:=(q.pred.any fun a=>decide (a.fM=c))||decide (c∈q.gk)
def kv(p:Pj)(q:Qu)(rows:Nat):Nat:=so rows (p.aW.filter (asked q)).length
theorem wi(p:Pj)(hp:p.aW.length≤1000000000)(q:Qu)(hq:q.Ok)(rows:Nat)(hr:rows<18446744073709551616)(H:aa):ag Tryz.prog 38 [p.av,q.av,du rows] H (.ok (du (kv p q rows))) H:=by
 have hn:=fun H=>ib q hq H
 have hnl:=q.m8 hq
 have hpl:=hq.pred
 unfold kv
 have hask:∀c,asked q c=((q.pred.any fun a=>decide (a.fM=c))||decide (c∈q.gk)):=fun c=>rfl
 generalize asked q=ask at*
 generalize q.gk=gk at*
 obtain⟨cs,key,prows,S⟩:=p
 obtain⟨q0,pred,bu,qcols,q4,cT,q6,q7⟩:=q
 simp only at*
 refine ag.aj (hint:=(fun _=>false)) Tryz.func38 (by kernel_rfl) rfl [6] (by kernel_rfl) (by decide) (by simp[Tryz.ntmps38]) ?_
 rw[Tryz.ntmps38]
 simp -implicitDefEqProofs only[↓reduceIte,go_sem,ab,Nat.reduceAdd,Nat.reduceLT,Nat.reduceEqDiff,Pj.av,Pj.ds,Qu.av,Qu.ds]
 refine ae.ok (hn _) ?_
 simp -implicitDefEqProofs only[↓reduceIte,go_sem,ab,Nat.reduceAdd,Nat.reduceLT,Nat.reduceLeDiff,Nat.reduceEqDiff,ay]
 obtain⟨qb,hqb⟩:∃qb,qb=az.box 31 8 0 1 [.d q0,.d (.list false (pred.map Atom.enc)),.d (.list false (bu.map pk)),.d (.list false (ints qcols)),.d q4,.d (.list false (cT.map pD)),.d q6,.d q7]:=⟨_,rfl⟩
 have hb:∀m,qb.below m=true:=by intro m;subst hqb;simp -implicitDefEqProofs only[go_sem]
 obtain⟨pb,hpb⟩:∃pb,pb=az.box 49 4 0 1 [.d (.list false (ints cs)),.d (.list false (ints key)),iA prows,.d (.list false (cl S))]:=⟨_,rfl⟩
 have hb2:∀m,pb.below m=true:=by intro m;subst hpb;simp -implicitDefEqProofs only[go_sem]
 rw[←hqb,←hpb]
 refine aO (fun k s H'=>H'=H++[pb,qb]∧s 2=du rows∧s 4= .ptr (H.length+1) 0 0 0∧s 7= .d (.list false (ints gk))∧s 8=du ((cs.take k).filter ask).length∧s 15= .d (.list false (ints cs))∧s 16=iA cs.length∧s 17=iA k) cs.length (by omega) (al.refl _ _) ?_ ?_ ?_
 ·refine⟨rfl,?_⟩
  simp -implicitDefEqProofs only[↓reduceIte,go_sem,Nat.reduceLT,Nat.reduceEqDiff,List.take_zero,List.filter_nil]
  rfl
 ·rintro k s H' hk hw ⟨rfl,t2,t4,t7,t8,t15,t16,t17⟩
  have hx:=ck cs k hk
  have e1:((cs.take (k+1)).filter ask).length=((cs.take k).filter ask).length+if ask cs[k]=true then 1 else 0:=by
   rw[List.take_succ_eq_append_getElem hk,List.filter_append,List.length_append]
   cases h:ask cs[k]<;>simp[h]
  have hle:((cs.take k).filter ask).length≤k:=Nat.le_trans (List.length_filter_le _ _) (List.length_take_le _ _)
  have hac:=hask cs[k]
  rw[e1]
  generalize ((cs.take k).filter ask).length=m at*
  generalize cs[k]=c at*
  have hca:=fun G (hg:G[H.length+2]?=some (.box 3 1 0 1 [iA c]))=>fo pred (fun a=>decide (a.fM=c)) 61 [.ptr (H.length+2) 0 0 0] false G (by omega) fun a _=>tZ a c _ _ hg
  simp -implicitDefEqProofs only[↓reduceIte,go_sem,ab,an,Nat.reduceAdd,Nat.reduceLT,Nat.reduceEqDiff,t15,t16,t17,hk,hx,t4]
  rw[hqb]
  simp -implicitDefEqProofs only[↓reduceIte,go_sem,Nat.reduceAdd,Nat.reduceLT,Nat.reduceLeDiff,Nat.reduceEqDiff]
  refine ae.ok (hca _ (by simp)) ?_
  obtain⟨m1,hm1⟩:∃m1,m1=m+1:=⟨_,rfl⟩
  have hwm:IntKind.u64.wrap ((m:Int)+1)=(m1:Int):=by rw[cP _ (by omega) (by omega)];omega
  cases ha:pred.any fun a=>decide (a.fM=c)
  case' true=>
   rw[ha,Bool.true_or]at hac
   simp -implicitDefEqProofs only[↓reduceIte,go_sem,Nat.reduceLT,Nat.reduceEqDiff,t8,t17,hwm]
  case' false=>
   rw[ha,Bool.false_or]at hac
   simp -implicitDefEqProofs only[↓reduceIte,go_sem,ab,Nat.reduceLT,Nat.reduceEqDiff,t7]
   refine ae.ok (dS gk c false _ (by omega)) ?_
   by_cases h2:c∈gk
   case' pos=>
    rw[decide_eq_true h2]at hac
    simp -implicitDefEqProofs only[↓reduceIte,go_sem,Nat.reduceLT,Nat.reduceEqDiff,reduceCtorEq,eq_true h2,t8,t17,hwm]
   case' neg=>
    rw[decide_eq_false h2]at hac
    simp -implicitDefEqProofs only[↓reduceIte,go_sem,Nat.reduceLT,Nat.reduceEqDiff,reduceCtorEq,eq_false h2,t17]
  all_goals
   rw[←hqb]
   refine c7.cut [_,_] _ 2 rfl rfl (by simp -implicitDefEqProofs only[go_sem,hb,hb2]) ⟨rfl,?_⟩
   simp -implicitDefEqProofs only[↓reduceIte,go_sem,Nat.reduceLT,Nat.reduceEqDiff,reduceCtorEq,t2,t4,t7,t8,t15,t16,hw,hac,←hm1]
 ·rintro s H' ⟨rfl,t2,t4,t7,t8,t15,t16,t17⟩
  rw[List.take_length]at t8
  have hle:(cs.filter ask).length≤cs.length:=List.length_filter_le _ _
  simp -implicitDefEqProofs only[↓reduceIte,go_sem,Nat.reduceLT,Nat.reduceEqDiff,t16,t17,t2,t8]
  refine ae.ok (oK rows _ hr (by omega) _) ?_
  simp -implicitDefEqProofs only[↓reduceIte,go_sem,Nat.reduceLT]
  refine au.ret ?_
  simp -implicitDefEqProofs only[↓reduceIte,go_sem,Nat.reduceLT]
def fm(p:Pj)(Z:List Zn)(x:Nat×Nat)(a:Atom):Nat×Nat:=
 if 0≤ek a.fM p.aW∧ek a.fM p.aW<Z.length then(fQ x.1 x.2,min x.2 (nA (Z.getD (ek a.fM p.aW).toNat uY) a))else x
def Bo(p:Pj)(Z:List Zn)(l:List Atom)(rows:Nat):Nat×Nat:=l.foldl (fm p Z) (0,rows)
def oN(p:Pj)(q:Qu)(l:List Atom)(Z:List Zn)(rows:Nat):Nat:=fQ (Bo p Z l rows).1 (so (Bo p Z l rows).2 q.gk.length)
theorem jQ(a b:Nat):fQ a b<18446744073709551616:=by unfold fQ;split<;>omega
theorem qO(a b:Nat):so a b<18446744073709551616:=by unfold so;split<;>omega
theorem uj(p:Pj)(Z:List Zn)(rows:Nat)(hr:rows<18446744073709551616):∀(l:List Atom) (x:Nat×Nat),x.1<18446744073709551616→x.2<18446744073709551616→(l.foldl (fm p Z) x).1<18446744073709551616∧(l.foldl (fm p Z) x).2<18446744073709551616
 |[],x,h1,h2=>⟨h1,h2⟩
 |a::l,x,h1,h2=>by
  rw[List.foldl_cons]
  refine uj p Z rows hr l _ ?_ ?_
  ·unfold fm;split;exact jQ _ _;exact h1
  ·unfold fm;split;(simp only;omega);exact h2
theorem B9(z:Zn)(a:Atom):nA z a≤z.rows:=by unfold nA;split;omega;split<;>omega
theorem C5(x:Int)(l:List Int):ek x l<l.length:=by
 unfold ek
 split
 ·rename_i h;have:=List.idxOf_lt_length_of_mem h;omega
 ·omega
theorem zI(p:Pj)(hp:p.aW.length≤1000000000)(q:Qu)(hq:q.Ok)(l:List Atom)(n1:Bool)(hl:l.length≤1000000000)(Z:List Zn)(hZ:∀z∈Z,z.rows≤1000000000)(hZl:Z.length≤1000000000)(rows:Nat)(hr:rows<18446744073709551616)(H:aa):
  ag Tryz.prog 37 [p.av,q.av,.d (.list n1 (l.map Atom.enc)),.d (.list false (Z.map Zn.ds)),du rows] H (.ok (du (oN p q l Z rows))) H:=by
 have hn:=fun H=>ib q hq H
 have hnl:=q.m8 hq
 unfold oN
 generalize q.gk=gk at*
 have hlt:=fun k=>uj p Z rows hr (l.take k) (0,rows) (by omega) hr
 have hstep:∀x a,fm p Z x a=if 0≤ek a.fM p.aW∧ek a.fM p.aW<Z.length then(fQ x.1 x.2,min x.2 (nA (Z.getD (ek a.fM p.aW).toNat uY) a))else x:=fun x a=>rfl
 unfold Bo
 generalize fm p Z=f at*
 obtain⟨cs,key,prows,S⟩:=p
 simp only at*
 have hqa:q.av= .agg [.d q.table,.d (.list false (q.pred.map Atom.enc)),.d (.list false (q.bu.map pk)),.d (.list false (ints q.aW)),.d q.group,.d (.list false (q.cT.map pD)),.d q.order,.d q.xG]:=rfl
 refine ag.aj (hint:=(fun _=>false)) Tryz.func37 (by kernel_rfl) rfl [10] (by kernel_rfl) (by decide) (by simp[Tryz.ntmps37]) ?_
 rw[Tryz.ntmps37]
 simp -implicitDefEqProofs only[↓reduceIte,go_sem,Nat.reduceAdd,Nat.reduceLT,Nat.reduceEqDiff,Pj.av,Pj.ds,hqa]
 obtain⟨qb,hqb⟩:∃qb,qb=az.box 31 8 0 1 [.d q.table,.d (.list false (q.pred.map Atom.enc)),.d (.list false (q.bu.map pk)),.d (.list false (ints q.aW)),.d q.group,.d (.list false (q.cT.map pD)),.d q.order,.d q.xG]:=⟨_,rfl⟩
 have hb:∀m,qb.below m=true:=by intro m;subst hqb;simp -implicitDefEqProofs only[go_sem]
 obtain⟨pb,hpb⟩:∃pb,pb=az.box 49 4 0 1 [.d (.list false (ints cs)),.d (.list false (ints key)),iA prows,.d (.list false (cl S))]:=⟨_,rfl⟩
 have hb2:∀m,pb.below m=true:=by intro m;subst hpb;simp -implicitDefEqProofs only[go_sem]
 rw[←hqb,←hpb]
 refine aO (fun k s H'=>H'=H++[pb,qb]∧s 3= .d (.list false (Z.map Zn.ds))∧s 5= .ptr H.length 0 0 0∧s 6= .ptr (H.length+1) 0 0 0∧s 11=du ((l.take k).foldl f (0,rows)).1∧s 12=du ((l.take k).foldl f (0,rows)).2∧s 17= .d (.list n1 (l.map Atom.enc))∧s 18=iA l.length∧s 19=iA k) l.length (by omega) (al.refl _ _) ?_ ?_ ?_
 ·refine⟨rfl,?_⟩
  simp -implicitDefEqProofs only[↓reduceIte,go_sem,Nat.reduceLT,Nat.reduceEqDiff,List.take_zero,List.foldl_nil]
  rfl
 ·rintro k s H' hk hw ⟨rfl,t3,t5,t6,t11,t12,t17,t18,t19⟩
  have hx:(l.map Atom.enc)[k]?=some l[k].enc:=by simp[hk]
  have e1:(l.take (k+1)).foldl f (0,rows)=f ((l.take k).foldl f (0,rows)) l[k]:=by rw[List.take_succ_eq_append_getElem hk,List.foldl_append];rfl
  obtain⟨hl1,hl2⟩:=hlt k
  rw[e1,hstep]
  generalize (l.take k).foldl f (0,rows)=x at*
  obtain⟨sum,left⟩:=x
  generalize l[k]=a at*
  simp only at hl1 hl2 t11 t12⊢
  have hil:=C5 a.fM cs
  have hid:=fun H=>jy cs a.fM false H (by omega)
  generalize ek a.fM cs=i at*
  simp -implicitDefEqProofs only[↓reduceIte,go_sem,ab,an,Nat.reduceAdd,Nat.reduceLT,Nat.reduceEqDiff,t17,t18,t19,hk,hx,Atom.enc,t5]
  rw[hpb]
  simp -implicitDefEqProofs only[↓reduceIte,go_sem,ab,Nat.reduceAdd,Nat.reduceLT,Nat.reduceLeDiff,Nat.reduceEqDiff]
  refine ae.ok (hid _) ?_
  by_cases h0:i<0
  case' pos=>
   rw[if_neg (by omega)]
   simp -implicitDefEqProofs only[↓reduceIte,go_sem,Nat.reduceLT,Nat.reduceEqDiff,reduceCtorEq,show ¬(0:Int)≤i by omega,t19]
  case' neg=>
   obtain⟨j,rfl⟩:=Int.eq_ofNat_of_zero_le (show 0≤i by omega)
   by_cases hj:j<Z.length
   case' neg=>
    rw[if_neg (by omega)]
    simp -implicitDefEqProofs only[↓reduceIte,go_sem,Nat.reduceLT,Nat.reduceEqDiff,t3,iy,hj,t19]
   case' pos=>
    rw[if_pos ⟨by omega,by omega⟩]
    have hz:(Z.map Zn.ds)[j]?=some Z[j].ds:=by simp[hj]
    have hzd:Z.getD j uY=Z[j]:=by simp[hj]
    have hro:=fun H=>zk Z[j] a (hZ _ (List.getElem_mem hj)) H
    have hzr:=hZ _ (List.getElem_mem hj)
    have hrl:=B9 Z[j] a
    simp only[Int.toNat_natCast]
    rw[hzd]
    generalize nA Z[j] a=rz at*
    generalize Z[j]=z at*
    simp -implicitDefEqProofs only[↓reduceIte,go_sem,Nat.reduceLT,Nat.reduceEqDiff,t3,iy,hj,t11,t12]
    refine ae.ok (gJ sum left hl1 hl2 _) ?_
    simp -implicitDefEqProofs only[↓reduceIte,go_sem,Nat.reduceLT]
    refine aQ K.mixed (by kernel_rfl) ?_
    simp -implicitDefEqProofs only[↓reduceIte,go_sem,ab,Nat.reduceAdd,Nat.reduceLT,Nat.reduceEqDiff,t3,t12,hz,Zn.ds,iD]
    refine ae.ok (hro _) ?_
    have hwm:IntKind.u64.wrap (max (rz:Int) 0)=(rz:Int):=by rw[cP _ (by omega) (by omega)];omega
    have hmn:min (left:Int) (rz:Int)=((min left rz:Nat):Int):=by omega
    simp -implicitDefEqProofs only[↓reduceIte,go_sem,Nat.reduceLT,Nat.reduceEqDiff,hwm,hmn,t19]
  all_goals
   rw[←hpb]
   refine c7.cut [_,_] _ 2 rfl rfl (by simp -implicitDefEqProofs only[go_sem,hb,hb2]) ⟨rfl,?_⟩
   simp -implicitDefEqProofs only[↓reduceIte,go_sem,Nat.reduceLT,Nat.reduceEqDiff,t3,t5,t6,t11,t12,t17,t18,hw]
 ·rintro s H' ⟨rfl,t3,t5,t6,t11,t12,t17,t18,t19⟩
  obtain⟨hl1,hl2⟩:=hlt l.length
  rw[List.take_length]at t11 t12 hl1 hl2
  generalize l.foldl f (0,rows)=x at*
  obtain⟨sum,left⟩:=x
  simp only at hl1 hl2 t11 t12⊢
  simp -implicitDefEqProofs only[↓reduceIte,go_sem,ab,Nat.reduceLT,Nat.reduceEqDiff,t18,t19,t11,t12,t6]
  rw[hqb]
  simp -implicitDefEqProofs only[↓reduceIte,go_sem,Nat.reduceAdd,Nat.reduceLT]
  refine ae.ok (hn _) ?_
  simp -implicitDefEqProofs only[↓reduceIte,go_sem,Nat.reduceLT,Nat.reduceEqDiff,ay,cP (gk.length:Int) (by omega) (by omega)]
  refine ae.ok (oK left gk.length hl2 (by omega) _) ?_
  simp -implicitDefEqProofs only[↓reduceIte,go_sem,Nat.reduceLT,Nat.reduceEqDiff]
  refine ae.ok (gJ sum (so left gk.length) hl1 (qO _ _) _) ?_
  simp -implicitDefEqProofs only[↓reduceIte,go_sem,Nat.reduceLT]
  refine au.ret ?_
  simp -implicitDefEqProofs only[↓reduceIte,go_sem,Nat.reduceLT]
end Go.Proofs.YtfklokhopcmloaaGreat
