/- DSolM -/
import Derived.Test.YticieifacalocaaTSH35
import Derived.WalkMore
namespace Go.Proofs.Yticieifacalocaa
open Go.RowKit
def DSRet (w:World) (n:Nat) (l:List Diff) (e:Ending) (w':World):Prop :=
 ∃g xs,e = .returned (.tuple #[.slice (some ⟨g,0,none⟩) n n, .slice none 0 0, .bool true])∧Blk w' g 3 (ci xs).toArray∧w.heap.size≤g∧xs.length=n∧(∀d∈l,gi xs d.x≤gi xs d.y+d.c)∧(∀x∈xs, -1000000000000≤x∧x≤0)∧Below w.heap.size w w'
theorem cR {n:Nat} {M:Int} {l:List Diff} {r i:Nat} {xs bs:List Int} {last:Int} (h:Bell n M l r i xs bs last) (hM:M≤3000000) (hl:l.length≤1024) (hr:r≤100) (hi:i≤l.length):∀x∈xs, -1000000000000≤x∧x≤0:=by
 intro x hx
 obtain ⟨k,hk,rfl⟩:=qL hx
 have hlen:=h.lens.1
 have h1:=h.bound (k:Int) (by omega) (by omega)
 have e:gi xs (k:Int)=xs[k]:=by unfold gi;rw [Int.toNat_natCast,List.getD_eq_getElem?_getD,List.getElem?_eq_getElem hk];rfl
 rw [e] at h1
 have h3:r * l.length≤100 * 1024:=jE hr hl
 have h4:M * ((r * l.length+i:Nat):Int)≤3000000 * 103424:=Int.mul_le_mul hM (by omega) (by omega) (by omega)
 omega
structure DL (w0:World) (κ:Kap) (w:World) (L:List (Nat × Nat × TypeId × Array Value)):Prop where
 f:Fr (fun _=>none) κ w0 w (fun _=>False)
 b:∀q∈L,HB κ w (.tmp q.1) q.2.1 q.2.2.1 q.2.2.2∧w0.heap.size≤q.2.1
section
variable {w0 w w':World} {κ:Kap} {L:List (Nat × Nat × TypeId × Array Value)}
theorem DL.make (h:DL w0 κ w L) (i:Nat) (t:TypeId) (cs:Array Value):DL w0 (kset κ w.heap.size (.tmp i)) (w.alloc (.cells cs t)) ((i,w.heap.size,t,cs)::L):=by
 have f:=Fr.make κ w (.cells cs t) (.tmp i) (fun _=>False)
 refine ⟨h.f.trans f,fun q hq => ?_⟩
 rcases zV.1 hq with rfl|hq
 ·exact ⟨HB.new κ w (.tmp i) cs t,h.f.size⟩
 ·exact ⟨(h.b q hq).1.fr f id,(h.b q hq).2⟩
theorem DL.keep (h:DL w0 κ w L) (hb:Below w.heap.size w w'):DL w0 κ w' L :=
 have f:=Fr.kept κ hb (fun _=>False)
 ⟨h.f.trans f,fun q hq=>⟨(h.b q hq).1.fr f id,(h.b q hq).2⟩⟩
end
set_option maxRecDepth 100000 in
set_option maxHeartbeats 4000000 in
theorem dsolve_any (n:Nat) (v:Value) (l:List Diff) (w:World) (M:Int) (hv:Diffs w v l) (hE:iJ n M l) (hn:n≤32) (hl:l.length≤1024) (hM0:0≤M) (hM:M≤3000000) (hsol:∃X:Int→Int,∀d∈l,X d.x≤X d.y+d.c) :
  Calls Try.prog 68 #[.int .i64 (n:Int),v] w (DSRet w n l):=by
 have HV:=Lib.hid hv
 have HE:=Lib.hid hE
 have HSOL:=Lib.hid hsol
 have HFIT:Hid (∀d∈l,fitD n d):=Lib.hid fun d hd=>by
  obtain ⟨k,hk⟩:=qV hd
  obtain ⟨a,b,c,d, -⟩:=hE k _ hk
  exact ⟨a,b,c,d⟩
 obtain ⟨A,cp,rfl,h1,h2,h3,hr⟩:=hv
 unfold maxLen at h2
 clear h3 hr hE hsol
 have mk:=eW (B:=n) (by omega)
 have hmf:∀(fn:Fn) (first cap:Array Value) (W:World),(Instr.makeFunc fn first cap).run Try.prog W = .ok (.func fn first cap) W:=fun _ _ _ _=>rfl
 have HL0:Hid (DL w (fun _=>none) w []):=Lib.hid ⟨Fr.refl _ _ _,by simp⟩
 have HL1:=Lib.hid (HL0.out.make 0 26 #[.slice A l.length cp])
 have HFC:=Lib.hid (fits_any (.slice A l.length cp) l n (w.alloc (.cells #[.slice A l.length cp] 26)) (HV.out.keep ((zR _ _).alloc (Nat.le_refl _) _)) hn HFIT.out)
 clear HL0
 go_enter Try.func68,Try.ntmps68
 go_upto_region 1 with fail
 generalize kset (fun _=>none) w.heap.size (.tmp 0)=κ1 at *
 generalize w.alloc (.cells #[.slice A l.length cp] 26)=W1 at *
 generalize w.heap.size=bl at *
 have q0:=(HL1.out.b _ (.head _)).1.cell 0
 simp only [zA,zB] at q0
 go_step3
 go_upto_region 3 with (first|(go_at_call 86;refine HFC.out.mono ?_;rintro e W2 ⟨rfl,hb2⟩))
 have HL2:=Lib.hid (HL1.out.keep hb2)
 clear hb2 HL1 HFC q0
 go_upto_region 4 with fail
 have hh3:=(HL2.out.make 1 3 (ci (List.replicate n 0)).toArray).make 2 33 #[.slice (some ⟨W2.heap.size,0,none⟩) n n]
 rw [show (W2.alloc (.cells (ci (List.replicate n 0)).toArray 3)).heap.size=W2.heap.size+1 by simp] at hh3
 have HL3:=Lib.hid hh3
 clear hh3 HL2
 generalize kset (kset κ1 W2.heap.size (.tmp 1)) (W2.heap.size+1) (.tmp 2)=κ3 at HL3
 generalize (W2.alloc (.cells (ci (List.replicate n 0)).toArray 3)).alloc (.cells #[.slice (some ⟨W2.heap.size,0,none⟩) n n] 33)=W3 at *
 generalize W2.heap.size+1=bx at *
 generalize W2.heap.size=gx at *
 go_upto_region 5 with fail
 have hh4:=(HL3.out.make 3 3 (ci (List.replicate n 0)).toArray).make 4 33 #[.slice (some ⟨W3.heap.size,0,none⟩) n n]
 rw [show (W3.alloc (.cells (ci (List.replicate n 0)).toArray 3)).heap.size=W3.heap.size+1 by simp] at hh4
 have HL4:=Lib.hid hh4
 clear hh4 HL3 mk
 generalize kset (kset κ3 W3.heap.size (.tmp 3)) (W3.heap.size+1) (.tmp 4)=κ4 at HL4
 generalize (W3.alloc (.cells (ci (List.replicate n 0)).toArray 3)).alloc (.cells #[.slice (some ⟨W3.heap.size,0,none⟩) n n] 33)=W4 at *
 generalize W3.heap.size+1=br at *
 generalize W3.heap.size=gr at *
 have HD4:Hid (DSS w (.slice A l.length cp) n bl gx bx gr br κ4 W4 (List.replicate n 0) (untK n 0)):=by
  have hb:=HL4.out.b
  have h3:=hb _ (.tail _ (.head _))
  exact Lib.hid ⟨HL4.out.f,(hb _ (.tail _ (.tail _ (.tail _ (.tail _ (.head _)))))).1,(hb _ (.tail _ (.tail _ (.tail _ (.head _))))).1,(hb _ (.tail _ (.tail _ (.head _)))).1,by simpa [untK] using h3.1,(hb _ (.head _)).1,(hb _ (.tail _ (.tail _ (.tail _ (.head _))))).2,h3.2⟩
 clear HL4
 have q1:=HD4.out.rb.cell 0
 simp only [zA,zB] at q1
 go_wp2_with fail
 clear q1
 go_loopw [23] (fun i wr=>∃k:Nat,k≤n∧i = .int .i64 (k:Int)∧Hid (DSS w (.slice A l.length cp) n bl gx bx gr br κ4 wr (List.replicate n 0) (untK n k))) (fun i _=>n-(intOf i).toNat)
 case atStart=>exact ⟨0,zQ _,rfl,HD4⟩
 case round =>
  clear HD4
  obtain ⟨k,hk,rfl,HS⟩:=hrel
  by_cases hlt:k<n
  ·have q1:=HS.out.rb.cell 0
   simp only [zA,zB] at q1
   obtain ⟨y,hy⟩:∃y,(untK n k)[k]? = some y:=⟨_,List.getElem?_eq_getElem (by rw [oT hk];exact hlt)⟩
   have qu:=HS.out.r.cell k
   rw [zA,wU hy] at qu
   have zu:=HS.out.r.frozen k
   have y1:(k:Int)<(n:Int):=by omega
   have hs2:=HS.out.setR k (-1)
   rw [rQ hlt] at hs2
   have HS2:=Lib.hid hs2
   clear hs2 HS hy
   go_wp2_with fail
   go_roundw
   case rel=>exact ⟨k+1,by omega,by go_num,HS2⟩
   case measure=>simp [intOf];omega
  ·obtain rfl:n=k:=by omega
   have y1:¬n<n:=by omega
   have HS2:Hid (DSS w (.slice A l.length cp) n bl gx bx gr br κ4 wr (List.replicate n 0) (List.replicate n (-1))):=by have:=HS.out;rw [oM] at this;exact Lib.hid this
   clear HS hlt hk
   go_wp2_with fail
   go_step3
   go_wp2_with fail
   go_loopw [11,32] (fun la ro wr=>∃(r:Nat) (a:Int) (xs bs:List Int) (κ:Kap),r≤n∧ro = .int .i64 (r:Int)∧la = .int .i64 a∧Hid (Round n M l r xs bs a∧(r=0→a = -1)∧DSS w (.slice A l.length cp) n bl gx bx gr br κ wr xs bs)) (fun _ ro _=>n-(intOf ro).toNat)
   case atStart=>exact ⟨0, -1,_,_,κ4,zQ _,rfl,rfl,Lib.hid ⟨.inl ⟨rfl,Bell.start n M l⟩,fun _=>rfl,HS2.out⟩⟩
   case round =>
    clear HS2
    obtain ⟨r,a,xs,bs,κ5,hr,rfl,rfl,HS⟩:=hrel
    by_cases hrn:r<n
    ·have yr:(r:Int)<(n:Int):=by omega
     have q0:=HS.out.2.2.l.cell 0
     simp only [zA,zB] at q0
     go_wp2_with fail
     clear q0
     go_loopw [11,36] (fun la i wr=>∃(j:Nat) (a:Int) (xs bs:List Int) (κ:Kap),j≤l.length∧i = .int .i64 (j:Int)∧la = .int .i64 a∧Hid (-1≤a∧Bell n M l r j xs bs a∧DSS w (.slice A l.length cp) n bl gx bx gr br κ wr xs bs)) (fun _ i _=>l.length-(intOf i).toNat)
     case atStart=>exact ⟨0, -1,xs,bs,κ5,zQ _,rfl,rfl,Lib.hid ⟨by omega,HS.out.1.go,HS.out.2.2⟩⟩
     case round =>
      clear HS
      obtain ⟨j,a,xs,bs,κ5,hj,rfl,rfl,HS⟩:=hrel
      by_cases hjl:j<l.length
      ·obtain ⟨d,hd⟩:∃d,l[j]? = some d:=⟨_,List.getElem?_eq_getElem hjl⟩
       obtain ⟨ha1,hbe,hs⟩:=HS.out
       obtain ⟨x0,x1,z0,z1,hne,c0,c1⟩:=HE.out j d hd
       obtain ⟨lx,lb⟩:=hbe.lens
       have hqy:=cR hbe hM hl (by omega) hj (gi xs d.y) (by unfold gi;exact getD_mem (by omega))
       have hc:=dlow_any hs HV.out hd ⟨x0,x1,z0,z1⟩ hne ⟨by omega,by omega⟩ lx lb ⟨by omega,hqy.2⟩ rfl
       have yj:(j:Int)<(l.length:Int):=by omega
       have HHD:=Lib.hid hd
       have HX0:=Lib.hid x0
       by_cases hgt:gi xs d.y+d.c<gi xs d.x
       ·rw [decide_eq_true hgt] at hc
        have HC:=Lib.hid hc
        have HBY:Hid (Bell n M l r (j+1) (xs.set d.x.toNat (gi xs d.y+d.c)) (bs.set d.x.toNat j) d.x):=Lib.hid (hbe.yes HE.out hd hgt)
        clear hc hd hbe hs hqy lx lb x0 x1 z0 z1 hne c0 c1 HS hgt
        go_wp2_with fail
        refine HC.out.mono ?_
        rintro e W2 ⟨rfl,κ6,h6⟩
        rw [if_pos rfl] at h6
        have q0:=h6.l.cell 0
        simp only [zA,zB] at q0
        obtain ⟨A',c',hv', -, -, -,hrd⟩:=HV.out.keep h6.below
        injection hv' with e1 e2 e3
        subst e1 e3
        obtain ⟨b1,o1,rfl, -,hx1, -, -⟩:=hrd.diff HHD.out
        have H6:=Lib.hid h6
        clear h6 hrd HC
        go_wp2_with fail
        go_roundw
        case rel=>exact ⟨j+1,d.x,_,_,κ6,by omega,by go_num,rfl,Lib.hid ⟨by have:=HX0.out;omega,HBY.out,H6.out⟩⟩
        case measure=>simp [intOf];omega
       ·rw [decide_eq_false hgt] at hc
        have HC:=Lib.hid hc
        have HBN:Hid (Bell n M l r (j+1) xs bs a):=Lib.hid (hbe.no hM0 hd (by omega))
        have HA1:=Lib.hid ha1
        clear hc hd hbe hs hqy lx lb x0 x1 z0 z1 hne c0 c1 HS hgt ha1
        go_wp2_with fail
        refine HC.out.mono ?_
        rintro e W2 ⟨rfl,κ6,h6⟩
        rw [if_neg (by simp)] at h6
        have H6:=Lib.hid h6
        clear h6 HC
        go_wp2_with fail
        go_roundw
        case rel=>exact ⟨j+1,a,xs,bs,κ6,by omega,by go_num,rfl,Lib.hid ⟨HA1.out,HBN.out,H6.out⟩⟩
        case measure=>simp [intOf];omega
      ·have HBN:Hid (Bell n M l r l.length xs bs a):=by
        have h:=HS.out.2.1
        rw [show j=l.length by omega] at h
        exact Lib.hid h
       have yj:¬((j:Int)<(l.length:Int)):=by omega
       have HSD:=Lib.hid HS.out.2.2
       by_cases hz:0≤a
       ·have dz:decide (a<0)=false:=by simp;omega
        have HZ:=Lib.hid hz
        clear HS hz
        go_wp2_with fail
        go_roundw
        case rel=>exact ⟨r+1,a,xs,bs,κ5,by omega,by go_num,rfl,Lib.hid ⟨.inr ⟨r,rfl,HBN.out,HZ.out⟩,fun h=>absurd h (by omega),HSD.out⟩⟩
        case measure=>simp [intOf];omega
       ·have HBZ:Hid (Bell n M l r l.length xs bs (-1)):=by
         have h:=HBN.out
         rw [show a = -1 by have:=HS.out.1;omega] at h
         exact Lib.hid h
        have dz:decide (a<0)=true:=by simp;omega
        have q1:=HSD.out.xb.cell 0
        simp only [zA,zB] at q1
        clear HS hz HBN
        go_wp2_with fail
        try rw [Exit.noGoto_ret]
        go_ret3
        refine ⟨gx,xs,rfl,HSD.out.x.b,HSD.out.nx,HBZ.out.lens.1,fun d hd => ?_,cR HBZ.out hM hl (by omega) (Nat.le_refl _),HSD.out.below⟩
        obtain ⟨k,hk⟩:=qV hd
        exact HBZ.out.solved hk
    ·obtain rfl:r=n:=by omega
     obtain ⟨hro,hz0,hs⟩:=HS.out
     rcases hro with ⟨h0,hbe⟩|⟨q,h1,hbe,hz⟩
     ·have HA:Hid (a = -1):=Lib.hid (hz0 h0)
      have yr:¬((r:Int)<(r:Int)):=by omega
      have dz:decide (a<0)=true:=by have:=HA.out;simp;omega
      have q1:=hs.xb.cell 0
      simp only [zA,zB] at q1
      have HSD:=Lib.hid hs
      have HBZ:=Lib.hid hbe
      have H00:=Lib.hid h0
      clear HS hs hbe hz0 h0
      go_wp2_with fail
      try rw [Exit.noGoto_ret]
      go_ret3
      refine ⟨gx,xs,rfl,HSD.out.x.b,HSD.out.nx,HBZ.out.lens.1,fun d hd => ?_,cR HBZ.out hM hl (by omega) (zQ _),HSD.out.below⟩
      obtain ⟨k,hk⟩:=qV hd
      obtain ⟨x0,x1, -⟩:=HE.out k d hk
      have:=H00.out
      omega
     ·exfalso
      obtain ⟨p,hp0,hway,d,d0,d1,d2,d3,d4⟩:=hbe.way HE.out hz (by omega)
      obtain ⟨hks,hcy⟩:=cyc_of_way hway d0 d2 d4
      obtain ⟨X,hX⟩:=HSOL.out
      obtain ⟨e,he,hno⟩:=cyc_no X hcy
      obtain ⟨k,hk,rfl⟩:=List.mem_map.1 he
      have hkl:=hks k hk
      have hmem:l.getD k ⟨0,0,0⟩∈l:=by
       rw [List.getD_eq_getElem?_getD,List.getElem?_eq_getElem hkl];exact xG hkl
      have:=hX _ hmem
      omega
end Go.Proofs.Yticieifacalocaa
