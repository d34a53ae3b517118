/- RpW PrpBoth PrpUse -/
import Derived.Test.YticieifacalocaaTSB50
import Derived.Test.YticieifacalocaaTSB49
namespace Go.Proofs.Yticieifacalocaa
open Go.RowKit
structure RpS (w:World) (fb:Array Value) (b gv:Nat) (wr:World) (val:List Int):Prop where
 x:Blk wr gv 3 (ci val).toArray
 f:Blk wr b 29 fb
 lx:w.heap.size≤gv
 ne:b≠gv
 bl:Below w.heap.size w wr
section
variable {w wr w':World} {fb:Array Value} {b gv:Nat} {val:List Int}
theorem RpS.keep (h:RpS w fb b gv wr val) (hb:Below wr.heap.size wr w'):RpS w fb b gv w' val:=⟨h.x.keep hb,h.f.keep hb,h.lx,h.ne,h.bl.trans (hb.mono h.bl.size)⟩
theorem RpS.set (h:RpS w fb b gv wr val) (i:Nat) (y:Int):RpS w fb b gv (wr.setCell ⟨gv,i,none⟩ (.int .i64 y)) (val.set i y):=by
 refine ⟨?_,?_,h.lx,h.ne,h.bl.grown (wR _ _ _ _) h.bl.size fun j e=>by injection e with e;have:=h.lx;omega⟩
 ·have:=h.x.set_ i (.int .i64 y)
  rw [gK,←cC] at this
  exact this
 ·exact ((wR wr gv i (.int .i64 y)).block b h.f.lt (fun e=>by injection e with e;exact h.ne e)).trans h.f
theorem RpS.at_ (h:RpS w fb b gv wr val) {i:Nat} (hi:i<val.length):wr.cell? ⟨gv,i,none⟩=some (.int .i64 (val.getD i 0)):=by
 rw [h.x.cell,zA];exact gO (getD_at hi)
end
set_option maxRecDepth 100000 in
set_option maxHeartbeats 4000000 in
theorem rprop_any {f:Form} {fv lv:Value} {ls:List Int} {w:World} {B:Nat} {o:Option (List Int)} (hf:IsForm w fv f) (hls:Ints w lv ls) (hB:B≤1024) (hb:f.bools=(B:Int)) (hlt:∀g∈f.clauses,∀x∈g,litB B x=true) (hq:rpOut B f.clauses ls=some o) :
  Calls Try.prog 26 #[fv,lv] w (pW w o):=by
 obtain ⟨iI,hiI,hzI0,hzI1,hzI2⟩:=qB gL
 obtain ⟨Al,cl,rfl,hl1,hl2,hl3,hl4⟩:=hls
 obtain ⟨av,cv,rfl,hi1,hi2,had,hmt⟩:=hf
 rw [hb] at *
 obtain ⟨Ac,cc,vs,rfl,hc1,hc2,hvl,hrd,hvs⟩:=hmt
 unfold maxLen at hl2 hc2
 have HLL:=Lib.hid (And.intro hl3 hl4)
 have HCL:=Lib.hid (And.intro hvl (And.intro hrd hvs))
 have HLT:=Lib.hid hlt
 have HQ:=Lib.hid hq
 have mk:∀W:World,(Instr.makeSlice 33 (.int .i64 ((B:Int)+1)) (.int .i64 ((B:Int)+1))).run Try.prog W = .ok (.slice (some ⟨W.heap.size,0,none⟩) (B+1) (B+1)) (W.alloc (.cells (ci (List.replicate (B+1) 0)).toArray 3)):=fun W=>by
  have:=mk_intL (B+1) (by unfold LIM;omega) W
  simpa using this
 clear had hi1 hi2 hl3 hl4 hvl hrd hvs hlt hq hb
 go_enter Try.func26,Try.ntmps26
 have HR0:Hid (RpS w #[.int .i64 f.ints, .int .i64 (B:Int),av, .slice Ac f.clauses.length cc] w.heap.size (w.heap.size+1) ((w.alloc (.cells #[.int .i64 f.ints, .int .i64 (B:Int),av, .slice Ac f.clauses.length cc] 29)).alloc (.cells (ci (List.replicate (B+1) 0)).toArray 3)) (List.replicate (B+1) 0)):=by
  have h1:=Blk.new (w.alloc (.cells #[.int .i64 f.ints, .int .i64 (B:Int),av, .slice Ac f.clauses.length cc] 29)) 3 (ci (List.replicate (B+1) 0)).toArray
  rw [show (w.alloc (.cells #[.int .i64 f.ints, .int .i64 (B:Int),av, .slice Ac f.clauses.length cc] 29)).heap.size=w.heap.size+1 by simp] at h1
  exact Lib.hid ⟨h1,(Blk.new w _ _).alloc _,by omega,by omega,((zO _ _).alloc (Nat.le_refl _) _).alloc (by simp) _⟩
 obtain ⟨r0,hr0⟩:∃r0,rI B ls (List.replicate (B+1) 0)=r0:=⟨_,rfl⟩
 have HRN:Hid (r0=none→o=none):=by
  refine Lib.hid fun h => ?_
  have:=HQ.out
  unfold rpOut at this
  rw [hr0,h] at this
  simp only at this
  injection this with this
  exact this.symm
 have HRS:Hid (∀v,r0=some v→∃o1,cR (B+2) f.clauses v=some o1∧o=o1.map fun v=>v.filter (· ≠ 0)):=by
  refine Lib.hid fun v h => ?_
  have:=HQ.out
  unfold rpOut at this
  rw [hr0,h] at this
  simp only at this
  cases hl:cR (B+2) f.clauses v with
  | none=>rw [hl] at this;cases this
  | some o1=>rw [hl] at this;injection this with this;exact ⟨o1,rfl,this.symm⟩
 have HR1:Hid (rI B (ls.drop 0) (List.replicate (B+1) 0)=r0):=Lib.hid hr0
 have HI64:Hid (∀out,o=some out→∀x∈out,I64 x):=by
  refine Lib.hid fun out h => ?_
  obtain ⟨o2,h1,h2⟩:=rU HLT.out ls
  rw [HQ.out] at h1
  injection h1 with h1
  rw [←h1,h] at h2
  obtain ⟨v3,a1, -,a3, -⟩:=h2
  rw [a3]
  exact oZ v3 0 (by omega)
 clear hr0 HQ
 go_upto_region 2 with fail
 generalize ((w.alloc (.cells #[.int .i64 f.ints, .int .i64 (B:Int),av, .slice Ac f.clauses.length cc] 29)).alloc (.cells (ci (List.replicate (B+1) 0)).toArray 3))=W2 at *
 obtain ⟨fb,hfb⟩:∃fb:Array Value,fb = #[.int .i64 f.ints, .int .i64 (B:Int),av, .slice Ac f.clauses.length cc]:=⟨_,rfl⟩
 rw [←hfb] at HR0
 have HFX:=Lib.hid hfb
 clear hfb
 generalize w.heap.size+1=gv at *
 have HBS:=Lib.hid HR0.out.f.lt
 obtain ⟨b,hb0⟩:∃b,b=w.heap.size:=⟨_,rfl⟩
 rw [←hb0] at HR0 HBS ⊢
 clear hb0 mk
 go_wp2_with fail
 go_loopw [26] (fun i wr=>∃k:Nat,k≤ls.length∧i = .int .i64 (k:Int)∧∃val:List Int,Hid (RpS w fb b gv wr val∧val.length=B+1∧rI B (ls.drop k) val=r0)) (fun i _=>ls.length-(intOf i).toNat)
 case atStart=>exact ⟨0,zQ _,rfl,_,Lib.hid ⟨HR0.out,by simp,HR1.out⟩⟩
 case round =>
  clear HR0 HR1 HBS
  obtain ⟨k,hk,rfl,val,HS⟩:=hrel
  by_cases hlt:k<ls.length
  ·obtain ⟨x,hx⟩:∃x,ls[k]? = some x:=⟨_,List.getElem?_eq_getElem hlt⟩
   obtain ⟨hs,hlen,hin⟩:=HS.out
   obtain ⟨b1,o1,rfl,hb1,qx⟩:=(HLL.out.2.keep hs.bl).int hx
   have hx64:=HLL.out.1 x (List.mem_of_getElem? hx)
   have hdr:ls.drop k=x::ls.drop (k+1):=by
    obtain ⟨h1,h2⟩:=zG.1 hx
    rw [zV h1,h2]
   rw [hdr,rI] at hin
   have q1:=hs.f.cell 1
   rw [HFX.out] at q1
   simp only [zA,zB,zC] at q1
   have yk:(k:Int)<(ls.length:Int):=by omega
   have HKL:=Lib.hid (And.intro hk hlt)
   have HSS:=Lib.hid (And.intro hs hlen)
   have HBL:=Lib.hid hs.bl
   have yB:IntKind.i64.wrap (-(B:Int)) = -(B:Int):=by rw [qP];omega
   clear hx hdr hb1 hk hlt HS
   by_cases e0:x=0
   ·rw [if_pos (.inl e0)] at hin
    have HON:=Lib.hid (HRN.out hin.symm)
    have y0:decide (x=0)=true:=by simpa using e0
    clear hin hs hlen hx64
    subst e0
    clear y0
    go_wp2_with fail
    go_ret2
    exact ⟨_,by rw [HON.out];rfl,by rw [HON.out];exact ⟨zX _ _ _ _,by simp⟩,HBL.out⟩
   ·have y0:decide (x=0)=false:=by simpa using e0
    have y0b:(x == 0)=false:=by simpa using e0
    by_cases e1:(B:Int)<x
    ·rw [if_pos (.inr (.inl e1))] at hin
     have HON:=Lib.hid (HRN.out hin.symm)
     have y1:decide (x > (B:Int))=true:=by simpa using e1
     clear hin hs hlen hx64
     go_wp2_with fail
     go_ret2
     exact ⟨_,by rw [HON.out];rfl,by rw [HON.out];exact ⟨zX _ _ _ _,by simp⟩,HBL.out⟩
    ·have y1:decide (x > (B:Int))=false:=by simp;omega
     by_cases e2:x < -(B:Int)
     ·rw [if_pos (.inr (.inr (.inl e2)))] at hin
      have HON:=Lib.hid (HRN.out hin.symm)
      have y2:decide (x < -(B:Int))=true:=by simpa using e2
      clear hin hs hlen hx64
      go_wp2_with fail
      go_ret2
      exact ⟨_,by rw [HON.out];rfl,by rw [HON.out];exact ⟨zX _ _ _ _,by simp⟩,HBL.out⟩
     ·have y2:decide (x < -(B:Int))=false:=by simp;omega
      have hab:x.natAbs<val.length:=by omega
      have HA:Hid (∀W,Calls Try.prog 48 #[.int .i64 x] W fun e w'=>e = .returned (.int .i64 (x.natAbs:Nat))∧W=w'):=Lib.hid fun W=>bG x W hx64 (by omega)
      have qv:=hs.at_ hab
      have zv:=hs.x.frozen x.natAbs
      have ya:(x.natAbs:Int)<(B:Int)+1:=by omega
      have yx:IntKind.i64.wrap (-x) = -x:=by clear yB;rw [qP];omega
      have HN1:=Lib.hid (And.intro (hs.set x.natAbs x) (by rw [qE];exact hlen:(val.set x.natAbs x).length=B+1))
      by_cases e3:val.getD x.natAbs 0 = -x
      ·rw [if_pos (.inr (.inr (.inr e3)))] at hin
       have HON:=Lib.hid (HRN.out hin.symm)
       rw [e3] at qv
       have y3:decide (-x = -x)=true:=by simp
       generalize x.natAbs=n at *
       clear hin hs hlen hx64 e3 hab
       go_wp2_with (first|(go_at_call 48;refine (HA.out _).mono ?_;rintro e W ⟨rfl,rfl⟩))
       go_ret2
       exact ⟨_,by rw [HON.out];rfl,by rw [HON.out];exact ⟨zX _ _ _ _,by simp⟩,HBL.out⟩
      ·rw [if_neg (fun h=>by rcases h with h|h|h|h;exact e0 h;exact e1 h;exact e2 h;exact e3 h)] at hin
       have HIN:=Lib.hid hin
       have y3:decide (val.getD x.natAbs 0 = -x)=false:=by simpa using e3
       have y3b:(val.getD x.natAbs 0 == -x)=false:=by simpa using e3
       generalize val.getD x.natAbs 0=y at *
       generalize x.natAbs=n at *
       clear hin hs hlen hx64 hab HSS
       go_wp2_with (first|(go_at_call 48;refine (HA.out _).mono ?_;rintro e W ⟨rfl,rfl⟩))
       have hlt:=HKL.out.2
       go_roundw
       case rel=>exact ⟨k+1,by omega,by go_num,val.set n x,Lib.hid ⟨HN1.out.1,HN1.out.2,HIN.out⟩⟩
       case measure=>simp [intOf];omega
  ·obtain rfl:k=ls.length:=by omega
   have yk:¬(ls.length<ls.length):=by omega
   obtain ⟨hs,hlen,hin⟩:=HS.out
   rw [qQ (Nat.le_refl _)] at hin
   obtain ⟨o1,hl1,ho⟩:=HRS.out val hin.symm
   have HL1:=Lib.hid (And.intro hs (And.intro hlen hl1))
   have HO:=Lib.hid ho
   clear hs hlen hin hl1 ho HS hk hlt HRN HRS
   go_wp2_with fail
   go_loopg [9] (B+2) (fun g9 v9 wr=>∃(ag:Bool) (val:List Int),v9 = .bool ag∧Hid (RpS w fb b gv wr val∧val.length=B+1∧((ag=true∧cR g9 f.clauses val=some o1)∨(ag=false∧o1=some val))))
   case atStart=>exact ⟨true,val,rfl,Lib.hid ⟨HL1.out.1,HL1.out.2.1, .inl ⟨rfl,HL1.out.2.2⟩⟩⟩
   case round =>
    clear HL1
    obtain ⟨ag,val,rfl,HS⟩:=hrel
    cases ag with
    | false =>
     obtain ⟨hs,hlen,hl⟩:=HS.out
     have hl:o1=some val:=by rcases hl with h|h;cases h.1;exact h.2
     have HO2:Hid (o=some (val.filter (· ≠ 0))):=by have:=HO.out;rw [hl] at this;exact Lib.hid this
     have HSS:=Lib.hid (And.intro hs hlen)
     clear hs hl hlen HS HO
     obtain ⟨W6,hW6⟩:∃W6,W6=wr:=⟨_,rfl⟩
     have HVAL:Hid (∀wx,Below W6.heap.size W6 wx→∀k,k<B+1→wx.cell? ⟨gv,k,none⟩=some (.int .i64 (val.getD k 0))):=Lib.hid fun wx hbw k hk=>by
      subst hW6
      exact (HSS.out.1.keep hbw).at_ (by rw [HSS.out.2];exact hk)
     have HB6:Hid (Below w.heap.size w W6):=Lib.hid (by rw [hW6];exact HSS.out.1.bl)
     have HLN:=Lib.hid HSS.out.2
     rw [←hW6]
     clear hW6 HSS
     go_wp2_with fail
     go_loopw [17,114] (fun v i wr=>∃(k:Nat) (xs:List Int) (A:Option Addr) (c:Nat),k≤B+1∧i = .int .i64 (k:Int)∧v = .slice A xs.length c∧Hid (wr.ownsRow W6.heap.size 3 1 (.slice A xs.length c) xs.length (ci xs)∧Below W6.heap.size W6 wr∧xs++(val.drop k).filter (· ≠ 0)=val.filter (· ≠ 0)∧xs.length≤k)) (fun _ i _=>B+1-(intOf i).toNat)
     case atStart=>exact ⟨0,[],none,0,zQ _,rfl,rfl,Lib.hid ⟨zX _ _ _ _,zO _ _,rfl,Nat.le_refl _⟩⟩
     case round =>
      obtain ⟨k,xs,A,c,hk,rfl,rfl,HO⟩:=hrel
      by_cases hlt:k<B+1
      ·have qv:=HVAL.out wr HO.out.2.1 k hlt
       have hdr:val.drop k=val.getD k 0::val.drop (k+1):=by
        rw [zV (by rw [HLN.out];exact hlt),List.getD_eq_getElem?_getD,List.getElem?_eq_getElem (by rw [HLN.out];exact hlt)]
        rfl
       have hxl:=HO.out.2.2.2
       generalize val.getD k 0=y at *
       have y1:(k:Int)<(B:Int)+1:=by omega
       by_cases e1:y=0
       ·have HDR:Hid ((val.drop k).filter (· ≠ 0)=(val.drop (k+1)).filter (· ≠ 0)):=by refine Lib.hid ?_;rw [hdr,e1];simp
        have HO3:=Lib.hid (And.intro HO.out.1 (And.intro HO.out.2.1 (And.intro (by rw [←HDR.out];exact HO.out.2.2.1:xs++(val.drop (k+1)).filter (· ≠ 0)=val.filter (· ≠ 0)) (xY HO.out.2.2.2))))
        subst e1
        clear hdr HO
        go_wp2_with fail
        go_roundw
        case rel=>exact ⟨k+1,xs,A,c,by omega,by go_num,rfl,HO3⟩
        case measure=>simp [intOf];omega
       ·have HDR:Hid ((val.drop k).filter (· ≠ 0)=y::(val.drop (k+1)).filter (· ≠ 0)):=by refine Lib.hid ?_;rw [hdr,vD,if_pos (by simpa using e1)]
        have y2:(y != 0)=true:=by simpa using e1
        have y2b:decide (y=0)=false:=by simpa using e1
        have y2c:(y == 0)=false:=by simpa using e1
        clear hdr
        go_wp2_with (at_builtin;refine yQ _ rfl _ _ 33 rfl W6.heap.size 3 iI (.int .i64 0) 1 8 Try.underlying33 hiI hzI0 hzI1 hzI2 rfl (by decide) _ _ _ rfl (HO.out.1.alloc _) ⟨wr.heap.size,0,none⟩ 1 1 [.int .i64 y] rfl rfl ?pc1 ?pc2 ?pc3 ?pc4 ?pc5 ?_)
        case pc2=>rfl
        case pc3=>unfold maxLen;omega
        case pc4=>omega
        case pc5=>have:=HO.out.2.1.size;omega
        intro v' w2 hown' hgrow _
        obtain ⟨A2,cap2,hv2⟩:=dQ hown'
        subst hv2
        have HO3:Hid (w2.ownsRow W6.heap.size 3 1 (.slice A2 (xs++[y]).length cap2) (xs++[y]).length (ci (xs++[y]))∧Below W6.heap.size W6 w2∧(xs++[y])++(val.drop (k+1)).filter (· ≠ 0)=val.filter (· ≠ 0)∧(xs++[y]).length≤k+1):=by
         refine Lib.hid ⟨by rw [cD,zJ];exact hown',(HO.out.2.1.alloc HO.out.2.1.size _).grown hgrow (by have:=HO.out.2.1.size;simp;omega) (fun g hg=>(HO.out.1.lt g hg).1),?_,by simp;exact HO.out.2.2.2⟩
         rw [←HO.out.2.2.1,HDR.out]
         simp
        clear hown' hgrow HO
        go_wp2_with fail
        go_roundw
        case rel=>exact ⟨k+1,xs++[y],A2,cap2,by omega,by go_num,by simp,HO3⟩
        case measure=>simp [intOf];omega
      ·obtain rfl:k=B+1:=by omega
       have y1:¬((B:Int)+1<(B:Int)+1):=by omega
       have hx:xs=val.filter (· ≠ 0):=by
        have:=HO.out.2.2.1
        rw [qQ (by rw [HLN.out];exact Nat.le_refl _)] at this
        simpa using this
       have HX:Hid (o=some xs):=Lib.hid (by rw [HO2.out,hx])
       clear hx hlt
       go_wp2_with fail
       go_ret2
       refine ⟨_,by rw [HX.out];rfl,?_,HB6.out.trans (HO.out.2.1.mono HB6.out.size)⟩
       rw [HX.out]
       exact ⟨rR HO.out.1 HB6.out.size,HI64.out xs HX.out⟩
    | true =>
     obtain ⟨hs,hlen,hl⟩:=HS.out
     have hl:cR gk f.clauses val=some o1:=by rcases hl with h|h;exact h.2;cases h.1
     cases gk with
     | zero=>cases hl
     | succ n =>
     obtain ⟨p0,hp0⟩:∃p0,aB f.clauses val false=p0:=⟨_,rfl⟩
     rw [cR,hp0] at hl
     have HPN:Hid (p0=none→o1=none):=Lib.hid fun h=>by rw [h] at hl;simp only at hl;injection hl with hl;exact hl.symm
     have HPS:Hid (∀v2 ag2,p0=some (v2,ag2)→(ag2=true∧cR n f.clauses v2=some o1)∨(ag2=false∧o1=some v2)):=Lib.hid fun v2 ag2 h=>by
      rw [h] at hl
      simp only at hl
      cases ag2 with
      | true=>rw [if_pos rfl] at hl;exact .inl ⟨rfl,hl⟩
      | false=>rw [if_neg (by simp)] at hl;injection hl with hl;exact .inr ⟨rfl,hl.symm⟩
     have HP0:Hid (aB (f.clauses.drop 0) val false=p0):=Lib.hid hp0
     have HSS:=Lib.hid (And.intro hs hlen)
     have q3:=hs.f.cell 3
     rw [HFX.out] at q3
     simp only [zA,zB,zC] at q3
     clear hs hl hlen hp0 HS
     go_wp2_with fail
     clear q3
     go_loopw [9,65] (fun a i wr=>∃j:Nat,j≤f.clauses.length∧i = .int .i64 (j:Int)∧∃(ag:Bool) (val:List Int),a = .bool ag∧Hid (RpS w fb b gv wr val∧val.length=B+1∧aB (f.clauses.drop j) val ag=p0)) (fun _ i _=>f.clauses.length-(intOf i).toNat)
     case atStart=>exact ⟨0,zQ _,rfl,false,val,rfl,Lib.hid ⟨HSS.out.1,HSS.out.2,HP0.out⟩⟩
     case round =>
      clear HSS HP0
      obtain ⟨j,hj,rfl,ag,val,rfl,HS⟩:=hrel
      by_cases hjl:j<f.clauses.length
      ·obtain ⟨c,hc⟩:∃c,f.clauses[j]? = some c:=⟨_,List.getElem?_eq_getElem hjl⟩
       obtain ⟨hs,hlen,hps⟩:=HS.out
       obtain ⟨b2,off2,A',c',rfl,hbs,qc,hci⟩:=Mat.at_ HCL.out.2.1 HCL.out.1 HCL.out.2.2 hc
       have qc:wr.cell? ⟨b2,off2+j,none⟩=some (.slice A' c.length c'):=(hs.bl.cell (p:=⟨b2,off2+j,none⟩) hbs).trans qc
       obtain ⟨A9,c9,e9,hn1,hn2,hn3,hn4⟩:=hci
       injection e9 with e9 _ e8
       subst e9 e8
       have hdr:f.clauses.drop j=c::f.clauses.drop (j+1):=by
        obtain ⟨h1,h2⟩:=zG.1 hc
        rw [zV h1,h2]
       rw [hdr,aB] at hps
       have HPS2:=Lib.hid hps
       have HCC:=Lib.hid (And.intro hn3 hn4)
       have HLC:Hid (∀x∈c,litB B x=true):=Lib.hid (HLT.out c (List.mem_of_getElem? hc))
       unfold maxLen at hn2
       have HSS:=Lib.hid (And.intro hs hlen)
       have yj:(j:Int)<(f.clauses.length:Int):=by omega
       have HJL:=Lib.hid (And.intro hj hjl)
       clear hs hlen hps hc hbs hn3 hn4 hdr HS hj hjl
       go_wp2_with fail
       clear qc
       go_loopw [12,13,14,71] (fun u op h i wr=>∃m:Nat,m≤c.length∧i = .int .i64 (m:Int)∧∃(pu:Int) (po:Nat) (ph:Bool),u = .int .i64 pu∧op = .int .i64 (po:Int)∧h = .bool ph∧Hid (RpS w fb b gv wr val∧val.length=B+1∧(c.drop m).foldl (rpLit val) (pu,po,ph)=bC val c∧po≤m)) (fun _ _ _ i _=>c.length-(intOf i).toNat)
       case atStart=>exact ⟨0,zQ _,rfl,0,0,false,rfl,rfl,rfl,Lib.hid ⟨HSS.out.1,HSS.out.2,rfl,Nat.le_refl _⟩⟩
       case round =>
        clear HSS
        obtain ⟨m,hm,rfl,pu,po,ph,rfl,rfl,rfl,HS⟩:=hrel
        by_cases hml:m<c.length
        ·obtain ⟨x,hx⟩:∃x,c[m]? = some x:=⟨_,List.getElem?_eq_getElem hml⟩
         obtain ⟨hs,hlen,hfo,hpo⟩:=HS.out
         obtain ⟨b3,o3,rfl, -,qx⟩:=(HCC.out.2.keep hs.bl).int hx
         obtain ⟨x0,xB⟩:=bT (HLC.out x (List.mem_of_getElem? hx))
         have hdr:c.drop m=x::c.drop (m+1):=by
          obtain ⟨h1,h2⟩:=zG.1 hx
          rw [zV h1,h2]
         rw [hdr,xE] at hfo
         have HA:Hid (∀W,Calls Try.prog 48 #[.int .i64 x] W fun e w'=>e = .returned (.int .i64 (x.natAbs:Nat))∧W=w'):=Lib.hid fun W=>bG x W (HCC.out.1 x (List.mem_of_getElem? hx)) (by omega)
         have qv:=hs.at_ (i:=x.natAbs) (by omega)
         have ya:(x.natAbs:Int)<(B:Int)+1:=by omega
         have ym:(m:Int)<(c.length:Int):=by omega
         have HML:=Lib.hid (And.intro hm hml)
         have HSS:=Lib.hid (And.intro hs hlen)
         have HPO:=Lib.hid hpo
         unfold rpLit at hfo
         simp only at hfo
         generalize val.getD x.natAbs 0=y at *
         generalize x.natAbs=nx at *
         clear hs hlen hx hdr hm hml HS xB
         by_cases e1:y=x
         ·rw [if_pos e1] at hfo
          have HFO:=Lib.hid hfo
          have y1:decide (y=x)=true:=by simpa using e1
          have y1b:(y == x)=true:=by simpa using e1
          clear hfo e1 hpo
          go_wp2_with (first|(go_at_call 48;refine (HA.out _).mono ?_;rintro e W ⟨rfl,rfl⟩))
          have hml:=HML.out.2
          go_roundw
          case rel=>exact ⟨m+1,by omega,by go_num,pu,po,true,rfl,rfl,rfl,Lib.hid ⟨HSS.out.1,HSS.out.2,HFO.out,xY HPO.out⟩⟩
          case measure=>simp [intOf];omega
         ·rw [if_neg e1] at hfo
          have y1:decide (y=x)=false:=by simpa using e1
          have y1b:(y == x)=false:=by simpa using e1
          by_cases e2:y=0∧x≠pu
          ·rw [if_pos e2] at hfo
           have HFO:=Lib.hid hfo
           obtain ⟨e2,e3⟩:=e2
           have y2:decide (y=0)=true:=by simpa using e2
           have y2b:(y == 0)=true:=by simpa using e2
           have y3:(x != pu)=true:=by simpa using e3
           have y4:decide (x=pu)=false:=by simpa using e3
           have y4b:(x == pu)=false:=by simpa using e3
           clear hfo e1 e2 e3
           go_wp2_with (first|(go_at_call 48;refine (HA.out _).mono ?_;rintro e W ⟨rfl,rfl⟩))
           have hml:=HML.out.2
           go_roundw
           case rel=>exact ⟨m+1,by omega,by go_num,x,po+1,ph,rfl,by go_num,rfl,Lib.hid ⟨HSS.out.1,HSS.out.2,HFO.out,by have:=HPO.out;omega⟩⟩
           case measure=>simp [intOf];omega
          ·rw [if_neg e2] at hfo
           have HFO:=Lib.hid hfo
           clear hfo hpo
           by_cases e3:y=0
           ·have e4:x=pu:=kQ.1 fun h=>e2 ⟨e3,h⟩
            have y2:decide (y=0)=true:=by simpa using e3
            have y2b:(y == 0)=true:=by simpa using e3
            have y3:(x != pu)=false:=by simpa using e4
            have y4:decide (x=pu)=true:=by simpa using e4
            have y4b:(x == pu)=true:=by simpa using e4
            clear e1 e2 e3 e4
            go_wp2_with (first|(go_at_call 48;refine (HA.out _).mono ?_;rintro e W ⟨rfl,rfl⟩))
            have hml:=HML.out.2
            go_roundw
            case rel=>exact ⟨m+1,by omega,by go_num,pu,po,ph,rfl,rfl,rfl,Lib.hid ⟨HSS.out.1,HSS.out.2,HFO.out,xY HPO.out⟩⟩
            case measure=>simp [intOf];omega
           ·have y2:decide (y=0)=false:=by simpa using e3
            have y2b:(y == 0)=false:=by simpa using e3
            clear e1 e2 e3
            go_wp2_with (first|(go_at_call 48;refine (HA.out _).mono ?_;rintro e W ⟨rfl,rfl⟩))
            have hml:=HML.out.2
            go_roundw
            case rel=>exact ⟨m+1,by omega,by go_num,pu,po,ph,rfl,rfl,rfl,Lib.hid ⟨HSS.out.1,HSS.out.2,HFO.out,xY HPO.out⟩⟩
            case measure=>simp [intOf];omega
        ·obtain rfl:m=c.length:=by omega
         have ym:¬(c.length<c.length):=by omega
         obtain ⟨hs,hlen,hfo, -⟩:=HS.out
         rw [qQ (Nat.le_refl _)] at hfo
         have hfo:(pu,po,ph)=bC val c:=hfo
         have hps:=HPS2.out
         rw [←hfo] at hps
         simp only at hps
         have hrun:=oG val c (0,0,false) (fun x hx=>(bT (HLC.out x hx)).1)
         have hun:ph=false→po=1→pu∈c∧pu≠0:=fun h1 h2=>by
          obtain ⟨-,h3⟩:=hrun
          change ((bC val c).2.2=false→0≤(bC val c).2.1∧_∧((bC val c).2.1=0+1→((bC val c).1∈c∧_∧(bC val c).1≠0)∧_)∧_) at h3
          rw [←hfo] at h3
          obtain ⟨-, -,h4, -⟩:=h3 h1
          obtain ⟨⟨h5, -,h6⟩, -⟩:=h4 (by simpa using h2)
          exact ⟨h5,h6⟩
         have HSS:=Lib.hid (And.intro hs hlen)
         have HUN:=Lib.hid hun
         have HBL:=Lib.hid hs.bl
         clear hs hlen hfo hrun hun HS hm hml
         cases ph with
         | true =>
          rw [if_pos (.inl rfl)] at hps
          have HPR:=Lib.hid hps
          clear hps
          go_wp2_with fail
          have hjl:=HJL.out.2
          go_roundw
          case rel=>exact ⟨j+1,by omega,by go_num,ag,val,rfl,Lib.hid ⟨HSS.out.1,HSS.out.2,HPR.out⟩⟩
          case measure=>simp [intOf];omega
         | false =>
          by_cases e1:1<po
          ·rw [if_pos (.inr e1)] at hps
           have HPR:=Lib.hid hps
           have y1:decide ((po:Int) > 1)=true:=by simp;omega
           have y2:(1:Int)<(po:Int):=by omega
           clear hps
           go_wp2_with fail
           have hjl:=HJL.out.2
           go_roundw
           case rel=>exact ⟨j+1,by omega,by go_num,ag,val,rfl,Lib.hid ⟨HSS.out.1,HSS.out.2,HPR.out⟩⟩
           case measure=>simp [intOf];omega
          ·rw [if_neg (fun h=>by rcases h with h|h;cases h;exact e1 h)] at hps
           have y1:decide ((po:Int) > 1)=false:=by simp;omega
           have y2:¬((1:Int)<(po:Int)):=by omega
           by_cases e2:po=0
           ·rw [if_pos e2] at hps
            have HON:Hid (o=none):=by have:=HO.out;rw [HPN.out hps.symm] at this;exact Lib.hid this
            subst e2
            clear hps e1 y1 y2
            go_wp2_with fail
            go_ret2
            exact ⟨_,by rw [HON.out];rfl,by rw [HON.out];exact ⟨zX _ _ _ _,by simp⟩,HBL.out⟩
           ·rw [if_neg e2] at hps
            obtain rfl:po=1:=by omega
            obtain ⟨hu1,hu2⟩:=HUN.out rfl rfl
            obtain ⟨-,uB⟩:=bT (HLC.out pu hu1)
            have HA:Hid (∀W,Calls Try.prog 48 #[.int .i64 pu] W fun e w'=>e = .returned (.int .i64 (pu.natAbs:Nat))∧W=w'):=Lib.hid fun W=>bG pu W (HCC.out.1 pu hu1) (by omega)
            have qv:=HSS.out.1.at_ (i:=pu.natAbs) (by rw [HSS.out.2];omega)
            have zv:=HSS.out.1.x.frozen pu.natAbs
            have ya:(pu.natAbs:Int)<(B:Int)+1:=by omega
            have HN2:=Lib.hid (And.intro (HSS.out.1.set pu.natAbs pu) (by rw [qE];exact HSS.out.2:(val.set pu.natAbs pu).length=B+1))
            have HPR:=Lib.hid hps
            generalize val.getD pu.natAbs 0=y at *
            generalize pu.natAbs=nu at *
            clear hps e1 e2 y1 y2 hu1 hu2 uB HSS
            go_wp2_with (first|(go_at_call 48;refine (HA.out _).mono ?_;rintro e W ⟨rfl,rfl⟩))
            have hjl:=HJL.out.2
            go_roundw
            case rel=>exact ⟨j+1,by omega,by go_num,true,val.set nu pu,rfl,Lib.hid ⟨HN2.out.1,HN2.out.2,HPR.out⟩⟩
            case measure=>simp [intOf];omega
      ·obtain rfl:j=f.clauses.length:=by omega
       have yj:¬(f.clauses.length<f.clauses.length):=by omega
       obtain ⟨hs,hlen,hps⟩:=HS.out
       rw [qQ (Nat.le_refl _)] at hps
       have HR:=Lib.hid (HPS.out val ag hps.symm)
       have HSS:=Lib.hid (And.intro hs hlen)
       clear hs hlen hps HS hj hjl
       go_wp2_with fail
       go_roundg n
       case measure=>omega
       case rel=>exact ⟨ag,val,rfl,Lib.hid ⟨HSS.out.1,HSS.out.2,HR.out⟩⟩
theorem prop_both {f:Form} {B:Nat} (hv:validF f=0) (hb:f.bools=(B:Int)) (hgx:∀xs∈f.clauses,xs.length≤1000000) (ls:List Int) (hll:ls.length≤1000000) :
  ∃o,PrpOk B f.clauses ls o∧(∀w fv lv,IsForm w fv f→Ints w lv ls→Calls Try.prog 25 #[fv,lv] w (pW w o))∧∀w fv lv,IsForm w fv f→Ints w lv ls→Calls Try.prog 26 #[fv,lv] w (pW w o):=by
 obtain ⟨N,hN⟩:∃N:Nat,f.ints=N:=⟨f.ints.toNat,by have:=(iP hv).2.1;omega⟩
 have hq:=lT hv hb hN
 have hcl:=hq.cl
 obtain ⟨o,h1,h2⟩:=outP_ok (B:=B) (gs:=f.clauses) hq.bl (by unfold LIM;omega) hq.cs ls
 obtain ⟨o2,h3,h4⟩:=rU (B:=B) (gs:=f.clauses) hq.cs ls
 have e:=h2.uniq h4
 subst e
 exact ⟨o,h2,fun w fv lv hf hl=>eK hf hl hq.bl hb hv (by omega) hgx hll h1,fun w fv lv hf hl=>rprop_any hf hl hq.bl hb hq.cs h3⟩
theorem SmallF.lens {a b c:Int} {f:Form} (h:SmallF a b c f):∀xs∈f.clauses,xs.length≤1000000:=fun xs hx=>by
 have:=(h.2.2.2.2.2 xs hx).2.1
 omega
theorem SmallF.bools {a b c:Int} {f:Form} (h:SmallF a b c f):∃B:Nat,f.bools=B∧1≤B∧B≤18:=by
 obtain ⟨-,h2,h3, -⟩:=h
 exact ⟨f.bools.toNat,by omega,by omega,by omega⟩
theorem mem_litsF:∀(val:List Int) (i:Nat) (l:Int),l∈gX i val↔∃k,k<val.length∧((val.getD k 0=1∧l=((i+k:Nat):Int)+1)∨(val.getD k 0 = -1∧l = -(((i+k:Nat):Int)+1))):=by
 intro val
 induction val with
 | nil=>intro i l;simp [gX]
 | cons y r ih =>
  intro i l
  rw [gX,zI,ih]
  constructor
  ·rintro (h|⟨k,h1,h2⟩)
   ·refine ⟨0,by simp,?_⟩
    by_cases h3:y=1
    ·rw [if_pos h3] at h;exact .inl ⟨h3,by simpa using h⟩
    ·rw [if_neg h3] at h
     by_cases h4:y = -1
     ·rw [if_pos h4] at h;exact .inr ⟨h4,by simpa using h⟩
     ·rw [if_neg h4] at h;cases h
   ·refine ⟨k+1,by simpa using h1,?_⟩
    rw [show i+(k+1)=i+1+k by omega]
    simpa using h2
  ·rintro ⟨k,h1,h2⟩
   cases k with
   | zero =>
    refine .inl ?_
    rcases h2 with ⟨h3,h4⟩|⟨h3,h4⟩
    ·have h3:y=1:=h3
     rw [if_pos h3];simpa using h4
    ·have h3:y = -1:=h3
     rw [if_neg (by omega),if_pos h3];simpa using h4
   | succ k =>
    refine .inr ⟨k,by simpa using h1,?_⟩
    rw [show i+1+k=i+(k+1) by omega]
    simpa using h2
theorem mem_trueIn {B:Nat} {val:List Int} (hl:val.length=B) {l:Int}:l∈gX 0 val↔TrueIn B val l:=by
 rw [mem_litsF]
 constructor
 ·rintro ⟨k,h1,⟨h2,rfl⟩|⟨h2,rfl⟩⟩
  ·rw [yA];exact ⟨iE (by omega),by rw [pU];exact h2⟩
  ·rw [yA];exact ⟨eR (by omega),by rw [lU];omega⟩
 ·rintro ⟨h1,h2⟩
  obtain ⟨h3,h4⟩:=wU.1 h1
  refine ⟨vr l,by omega,?_⟩
  unfold tv at h2
  rw [yA]
  by_cases h5:l<0
  ·rw [if_pos h5] at h2
   exact .inr ⟨by omega,by unfold vr;omega⟩
  ·rw [if_neg h5] at h2
   exact .inl ⟨by omega,by unfold vr;omega⟩
section
variable {B:Nat} {gs:List (List Int)} {ls ms a b:List Int} {o:Option (List Int)} {M:Int→Prop} {bs:List Bool}
theorem PrpOk.len (h:PrpOk B gs ls (some a)):a.length≤B:=by
 obtain ⟨v1,a1,a2,rfl,a4,a5⟩:=h
 rw [←a1];exact litsF_len _ _
theorem PrpOk.models (h:PrpOk B gs ls o) (hlt:∀g∈gs,∀x∈g,litB B x=true) (hll:∀l∈ls,litB B l=true∧holds bs l=true) (hc:∀g∈gs,g.any (holds bs)=true):∃a,o=some a∧∀l∈a,holds bs l=true:=by
 have hcl:Closed B gs ls (fun l=>litB B l=true∧holds bs l=true):=by
  refine ⟨fun l hl=>hl.1,fun l hl hn => ?_,hll,fun g hg => ?_⟩
  ·have h1:=hl.2
   have h2:=hn.2
   rcases bR l with rfl|⟨n,rfl⟩|⟨n,rfl⟩
   ·cases h1
   ·rw [dY] at h1;rw [bA] at h2
    rw [List.getD_eq_getElem?_getD] at h1
    cases hb:bs[n]? with
    | none=>rw [hb] at h1;cases h1
    | some t=>rw [hb] at h1 h2;simp at h1 h2;rw [h1] at h2;cases h2
   ·rw [bA] at h1;rw [yC,dY] at h2
    rw [List.getD_eq_getElem?_getD] at h2
    cases hb:bs[n]? with
    | none=>rw [hb] at h2;cases h2
    | some t=>rw [hb] at h1 h2;simp at h1 h2;rw [h1] at h2;cases h2
  ·obtain ⟨x,hx,hh⟩:=xN.1 (hc g hg)
   exact .inl ⟨x,hx,hlt g hg x hx,hh⟩
 cases o with
 | none=>exact absurd hcl (h _)
 | some a =>
  refine ⟨a,rfl,fun l hl => ?_⟩
  obtain ⟨v1,a1,a2,rfl,a4,a5⟩:=h
  exact (a5 _ hcl l ((mem_trueIn a1).1 hl)).2
end
end Go.Proofs.Yticieifacalocaa
