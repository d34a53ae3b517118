/- DSolM SolSearch -/
import Derived.Test.YticieifacalocaaTSE35
import Derived.WalkMore
namespace Go.Proofs.Yticieifacalocaa
open Go.RowKit
def DSRet (w:World) (n:Nat) (l:List Diff) (e:Ending) (w':World):Prop :=
 ∃g xs,e = .returned (.tuple #[.slice (some ⟨g,0,none⟩) n n, .slice none 0 0, .bool true])∧Blk w' g 3 (ci xs).toArray∧w.heap.size≤g∧xs.length=n∧(∀d∈l,gi xs d.x≤gi xs d.y+d.c)∧(∀x∈xs, -1000000000000≤x∧x≤0)∧Below w.heap.size w w'
theorem aX {n:Nat} {M:Int} {l:List Diff} {r i:Nat} {xs bs:List Int} {last:Int} (h:Bell n M l r i xs bs last) (hM:M≤3000000) (hl:l.length≤1024) (hr:r≤100) (hi:i≤l.length):∀x∈xs, -1000000000000≤x∧x≤0:=by
 intro x hx
 obtain ⟨k,hk,rfl⟩:=qX hx
 have hlen:=h.lens.1
 have h1:=h.bound (k:Int) (by omega) (by omega)
 have e:gi xs (k:Int)=xs[k]:=by unfold gi;rw [Int.toNat_natCast,List.getD_eq_getElem?_getD,List.getElem?_eq_getElem hk];rfl
 rw [e] at h1
 have h3:r * l.length≤100 * 1024:=vQ hr hl
 have h4:M * ((r * l.length+i:Nat):Int)≤3000000 * 103424:=jL hM (by omega) (by omega) (by omega)
 omega
structure DL (w0:World) (κ:Kap) (w:World) (L:List (Nat × Nat × TypeId × Array Value)):Prop where
 f:Fr (fun _=>none) κ w0 w (fun _=>False)
 b:∀q∈L,HB κ w (.tmp q.1) q.2.1 q.2.2.1 q.2.2.2∧w0.heap.size≤q.2.1
section
variable {w0 w w':World} {κ:Kap} {L:List (Nat × Nat × TypeId × Array Value)}
theorem DL.make (h:DL w0 κ w L) (i:Nat) (t:TypeId) (cs:Array Value):DL w0 (kset κ w.heap.size (.tmp i)) (w.alloc (.cells cs t)) ((i,w.heap.size,t,cs)::L):=by
 have f:=Fr.make κ w (.cells cs t) (.tmp i) (fun _=>False)
 refine ⟨h.f.trans f,fun q hq => ?_⟩
 rcases zX.1 hq with rfl|hq
 ·exact ⟨HB.new κ w (.tmp i) cs t,h.f.size⟩
 ·exact ⟨(h.b q hq).1.fr f id,(h.b q hq).2⟩
theorem DL.keep (h:DL w0 κ w L) (hb:Below w.heap.size w w'):DL w0 κ w' L :=
 have f:=Fr.kept κ hb (fun _=>False)
 ⟨h.f.trans f,fun q hq=>⟨(h.b q hq).1.fr f id,(h.b q hq).2⟩⟩
end
set_option maxRecDepth 100000 in
set_option maxHeartbeats 4000000 in
theorem dsolve_any (n:Nat) (v:Value) (l:List Diff) (w:World) (M:Int) (hv:Diffs w v l) (hE:bX n M l) (hn:n≤32) (hl:l.length≤1024) (hM0:0≤M) (hM:M≤3000000) (hsol:∃X:Int→Int,∀d∈l,X d.x≤X d.y+d.c) :
  Calls Try.prog 68 #[.int .i64 (n:Int),v] w (DSRet w n l):=by
 have HV:=Lib.hid hv
 have HE:=Lib.hid hE
 have HSOL:=Lib.hid hsol
 have HFIT:Hid (∀d∈l,fitD n d):=Lib.hid fun d hd=>by
  obtain ⟨k,hk⟩:=qI hd
  obtain ⟨a,b,c,d, -⟩:=hE k _ hk
  exact ⟨a,b,c,d⟩
 obtain ⟨A,cp,rfl,h1,h2,h3,hr⟩:=hv
 unfold maxLen at h2
 clear h3 hr hE hsol
 have mk:=fP (B:=n) (by omega)
 have hmf:∀(fn:Fn) (first cap:Array Value) (W:World),(Instr.makeFunc fn first cap).run Try.prog W = .ok (.func fn first cap) W:=fun _ _ _ _=>rfl
 have HL0:Hid (DL w (fun _=>none) w []):=Lib.hid ⟨Fr.refl _ _ _,by simp⟩
 have HL1:=Lib.hid (HL0.out.make 0 26 #[.slice A l.length cp])
 have HFC:=Lib.hid (fits_any (.slice A l.length cp) l n (w.alloc (.cells #[.slice A l.length cp] 26)) (HV.out.keep ((zL _ _).alloc (Nat.le_refl _) _)) hn HFIT.out)
 clear HL0
 go_enter Try.func68,Try.ntmps68
 go_upto_region 1 with fail
 generalize kset (fun _=>none) w.heap.size (.tmp 0)=κ1 at *
 generalize w.alloc (.cells #[.slice A l.length cp] 26)=W1 at *
 generalize w.heap.size=bl at *
 have q0:=(HL1.out.b _ (.head _)).1.cell 0
 simp only [zA,zB] at q0
 go_step3
 go_upto_region 3 with (first|(go_at_call 86;refine HFC.out.mono ?_;rintro e W2 ⟨rfl,hb2⟩))
 have HL2:=Lib.hid (HL1.out.keep hb2)
 clear hb2 HL1 HFC q0
 go_upto_region 4 with fail
 have hh3:=(HL2.out.make 1 3 (ci (List.replicate n 0)).toArray).make 2 33 #[.slice (some ⟨W2.heap.size,0,none⟩) n n]
 rw [show (W2.alloc (.cells (ci (List.replicate n 0)).toArray 3)).heap.size=W2.heap.size+1 by simp] at hh3
 have HL3:=Lib.hid hh3
 clear hh3 HL2
 generalize kset (kset κ1 W2.heap.size (.tmp 1)) (W2.heap.size+1) (.tmp 2)=κ3 at HL3
 generalize (W2.alloc (.cells (ci (List.replicate n 0)).toArray 3)).alloc (.cells #[.slice (some ⟨W2.heap.size,0,none⟩) n n] 33)=W3 at *
 generalize W2.heap.size+1=bx at *
 generalize W2.heap.size=gx at *
 go_upto_region 5 with fail
 have hh4:=(HL3.out.make 3 3 (ci (List.replicate n 0)).toArray).make 4 33 #[.slice (some ⟨W3.heap.size,0,none⟩) n n]
 rw [show (W3.alloc (.cells (ci (List.replicate n 0)).toArray 3)).heap.size=W3.heap.size+1 by simp] at hh4
 have HL4:=Lib.hid hh4
 clear hh4 HL3 mk
 generalize kset (kset κ3 W3.heap.size (.tmp 3)) (W3.heap.size+1) (.tmp 4)=κ4 at HL4
 generalize (W3.alloc (.cells (ci (List.replicate n 0)).toArray 3)).alloc (.cells #[.slice (some ⟨W3.heap.size,0,none⟩) n n] 33)=W4 at *
 generalize W3.heap.size+1=br at *
 generalize W3.heap.size=gr at *
 have HD4:Hid (DSS w (.slice A l.length cp) n bl gx bx gr br κ4 W4 (List.replicate n 0) (untK n 0)):=by
  have hb:=HL4.out.b
  have h3:=hb _ (.tail _ (.head _))
  exact Lib.hid ⟨HL4.out.f,(hb _ (.tail _ (.tail _ (.tail _ (.tail _ (.head _)))))).1,(hb _ (.tail _ (.tail _ (.tail _ (.head _))))).1,(hb _ (.tail _ (.tail _ (.head _)))).1,by simpa [untK] using h3.1,(hb _ (.head _)).1,(hb _ (.tail _ (.tail _ (.tail _ (.head _))))).2,h3.2⟩
 clear HL4
 have q1:=HD4.out.rb.cell 0
 simp only [zA,zB] at q1
 go_wp2_with fail
 clear q1
 go_loopw [23] (fun i wr=>∃k:Nat,k≤n∧i = .int .i64 (k:Int)∧Hid (DSS w (.slice A l.length cp) n bl gx bx gr br κ4 wr (List.replicate n 0) (untK n k))) (fun i _=>n-(intOf i).toNat)
 case atStart=>exact ⟨0,zS _,rfl,HD4⟩
 case round =>
  clear HD4
  obtain ⟨k,hk,rfl,HS⟩:=hrel
  by_cases hlt:k<n
  ·have q1:=HS.out.rb.cell 0
   simp only [zA,zB] at q1
   obtain ⟨y,hy⟩:∃y,(untK n k)[k]? = some y:=⟨_,List.getElem?_eq_getElem (by rw [sM hk];exact hlt)⟩
   have qu:=HS.out.r.cell k
   rw [zA,gJ hy] at qu
   have zu:=HS.out.r.frozen k
   have y1:(k:Int)<(n:Int):=by omega
   have hs2:=HS.out.setR k (-1)
   rw [rW hlt] at hs2
   have HS2:=Lib.hid hs2
   clear hs2 HS hy
   go_wp2_with fail
   go_roundw
   case rel=>exact ⟨k+1,by omega,by go_num,HS2⟩
   case measure=>simp [intOf];omega
  ·obtain rfl:n=k:=by omega
   have y1:¬n<n:=by omega
   have HS2:Hid (DSS w (.slice A l.length cp) n bl gx bx gr br κ4 wr (List.replicate n 0) (List.replicate n (-1))):=by have:=HS.out;rw [sE] at this;exact Lib.hid this
   clear HS hlt hk
   go_wp2_with fail
   go_step3
   go_wp2_with fail
   go_loopw [11,32] (fun la ro wr=>∃(r:Nat) (a:Int) (xs bs:List Int) (κ:Kap),r≤n∧ro = .int .i64 (r:Int)∧la = .int .i64 a∧Hid (Round n M l r xs bs a∧(r=0→a = -1)∧DSS w (.slice A l.length cp) n bl gx bx gr br κ wr xs bs)) (fun _ ro _=>n-(intOf ro).toNat)
   case atStart=>exact ⟨0, -1,_,_,κ4,zS _,rfl,rfl,Lib.hid ⟨.inl ⟨rfl,Bell.start n M l⟩,fun _=>rfl,HS2.out⟩⟩
   case round =>
    clear HS2
    obtain ⟨r,a,xs,bs,κ5,hr,rfl,rfl,HS⟩:=hrel
    by_cases hrn:r<n
    ·have yr:(r:Int)<(n:Int):=by omega
     have q0:=HS.out.2.2.l.cell 0
     simp only [zA,zB] at q0
     go_wp2_with fail
     clear q0
     go_loopw [11,36] (fun la i wr=>∃(j:Nat) (a:Int) (xs bs:List Int) (κ:Kap),j≤l.length∧i = .int .i64 (j:Int)∧la = .int .i64 a∧Hid (-1≤a∧Bell n M l r j xs bs a∧DSS w (.slice A l.length cp) n bl gx bx gr br κ wr xs bs)) (fun _ i _=>l.length-(intOf i).toNat)
     case atStart=>exact ⟨0, -1,xs,bs,κ5,zS _,rfl,rfl,Lib.hid ⟨by omega,HS.out.1.go,HS.out.2.2⟩⟩
     case round =>
      clear HS
      obtain ⟨j,a,xs,bs,κ5,hj,rfl,rfl,HS⟩:=hrel
      by_cases hjl:j<l.length
      ·obtain ⟨d,hd⟩:∃d,l[j]? = some d:=⟨_,List.getElem?_eq_getElem hjl⟩
       obtain ⟨ha1,hbe,hs⟩:=HS.out
       obtain ⟨x0,x1,z0,z1,hne,c0,c1⟩:=HE.out j d hd
       obtain ⟨lx,lb⟩:=hbe.lens
       have hqy:=aX hbe hM hl (by omega) hj (gi xs d.y) (by unfold gi;exact getD_mem (by omega))
       have hc:=dlow_any hs HV.out hd ⟨x0,x1,z0,z1⟩ hne ⟨by omega,by omega⟩ lx lb ⟨by omega,hqy.2⟩ rfl
       have yj:(j:Int)<(l.length:Int):=by omega
       have HHD:=Lib.hid hd
       have HX0:=Lib.hid x0
       by_cases hgt:gi xs d.y+d.c<gi xs d.x
       ·rw [decide_eq_true hgt] at hc
        have HC:=Lib.hid hc
        have HBY:Hid (Bell n M l r (j+1) (xs.set d.x.toNat (gi xs d.y+d.c)) (bs.set d.x.toNat j) d.x):=Lib.hid (hbe.yes HE.out hd hgt)
        clear hc hd hbe hs hqy lx lb x0 x1 z0 z1 hne c0 c1 HS hgt
        go_wp2_with fail
        refine HC.out.mono ?_
        rintro e W2 ⟨rfl,κ6,h6⟩
        rw [if_pos rfl] at h6
        have q0:=h6.l.cell 0
        simp only [zA,zB] at q0
        obtain ⟨A',c',hv', -, -, -,hrd⟩:=HV.out.keep h6.below
        injection hv' with e1 e2 e3
        subst e1 e3
        obtain ⟨b1,o1,rfl, -,hx1, -, -⟩:=hrd.diff HHD.out
        have H6:=Lib.hid h6
        clear h6 hrd HC
        go_wp2_with fail
        go_roundw
        case rel=>exact ⟨j+1,d.x,_,_,κ6,by omega,by go_num,rfl,Lib.hid ⟨by have:=HX0.out;omega,HBY.out,H6.out⟩⟩
        case measure=>simp [intOf];omega
       ·rw [decide_eq_false hgt] at hc
        have HC:=Lib.hid hc
        have HBN:Hid (Bell n M l r (j+1) xs bs a):=Lib.hid (hbe.no hM0 hd (by omega))
        have HA1:=Lib.hid ha1
        clear hc hd hbe hs hqy lx lb x0 x1 z0 z1 hne c0 c1 HS hgt ha1
        go_wp2_with fail
        refine HC.out.mono ?_
        rintro e W2 ⟨rfl,κ6,h6⟩
        rw [if_neg (by simp)] at h6
        have H6:=Lib.hid h6
        clear h6 HC
        go_wp2_with fail
        go_roundw
        case rel=>exact ⟨j+1,a,xs,bs,κ6,by omega,by go_num,rfl,Lib.hid ⟨HA1.out,HBN.out,H6.out⟩⟩
        case measure=>simp [intOf];omega
      ·have HBN:Hid (Bell n M l r l.length xs bs a):=by
        have h:=HS.out.2.1
        rw [show j=l.length by omega] at h
        exact Lib.hid h
       have yj:¬((j:Int)<(l.length:Int)):=by omega
       have HSD:=Lib.hid HS.out.2.2
       by_cases hz:0≤a
       ·have dz:decide (a<0)=false:=by simp;omega
        have HZ:=Lib.hid hz
        clear HS hz
        go_wp2_with fail
        go_roundw
        case rel=>exact ⟨r+1,a,xs,bs,κ5,by omega,by go_num,rfl,Lib.hid ⟨.inr ⟨r,rfl,HBN.out,HZ.out⟩,fun h=>absurd h (by omega),HSD.out⟩⟩
        case measure=>simp [intOf];omega
       ·have HBZ:Hid (Bell n M l r l.length xs bs (-1)):=by
         have h:=HBN.out
         rw [show a = -1 by have:=HS.out.1;omega] at h
         exact Lib.hid h
        have dz:decide (a<0)=true:=by simp;omega
        have q1:=HSD.out.xb.cell 0
        simp only [zA,zB] at q1
        clear HS hz HBN
        go_wp2_with fail
        try rw [Exit.noGoto_ret]
        go_ret3
        refine ⟨gx,xs,rfl,HSD.out.x.b,HSD.out.nx,HBZ.out.lens.1,fun d hd => ?_,aX HBZ.out hM hl (by omega) (Nat.le_refl _),HSD.out.below⟩
        obtain ⟨k,hk⟩:=qI hd
        exact HBZ.out.solved hk
    ·obtain rfl:r=n:=by omega
     obtain ⟨hro,hz0,hs⟩:=HS.out
     rcases hro with ⟨h0,hbe⟩|⟨q,h1,hbe,hz⟩
     ·have HA:Hid (a = -1):=Lib.hid (hz0 h0)
      have yr:¬((r:Int)<(r:Int)):=by omega
      have dz:decide (a<0)=true:=by have:=HA.out;simp;omega
      have q1:=hs.xb.cell 0
      simp only [zA,zB] at q1
      have HSD:=Lib.hid hs
      have HBZ:=Lib.hid hbe
      have H00:=Lib.hid h0
      clear HS hs hbe hz0 h0
      go_wp2_with fail
      try rw [Exit.noGoto_ret]
      go_ret3
      refine ⟨gx,xs,rfl,HSD.out.x.b,HSD.out.nx,HBZ.out.lens.1,fun d hd => ?_,aX HBZ.out hM hl (by omega) (zS _),HSD.out.below⟩
      obtain ⟨k,hk⟩:=qI hd
      obtain ⟨x0,x1, -⟩:=HE.out k d hk
      have:=H00.out
      omega
     ·exfalso
      obtain ⟨p,hp0,hway,d,d0,d1,d2,d3,d4⟩:=hbe.way HE.out hz (by omega)
      obtain ⟨hks,hcy⟩:=fD hway d0 d2 d4
      obtain ⟨X,hX⟩:=HSOL.out
      obtain ⟨e,he,hno⟩:=cyc_no X hcy
      obtain ⟨k,hk,rfl⟩:=List.mem_map.1 he
      have hkl:=hks k hk
      have hmem:l.getD k ⟨0,0,0⟩∈l:=by
       rw [List.getD_eq_getElem?_getD,List.getElem?_eq_getElem hkl];exact yG hkl
      have:=hX _ hmem
      omega
def phi (B:Nat) (d:Nat→Bool):Nat→Nat
 | 0=>0
 | n+1=>phi B d n+(if d n=true then 0 else 2 ^ (B-1-n))
theorem iV {B:Nat} {d d2:Nat→Bool}:∀{n:Nat},(∀p,p<n→d p=d2 p)→phi B d n=phi B d2 n:=by
 intro n
 induction n with
 | zero=>intro _;rfl
 | succ n ih=>intro h;rw [phi,phi,ih fun p hp=>h p (by omega),h n (by omega)]
theorem rT {B:Nat} {d:Nat→Bool} {m:Nat}:∀{n:Nat},m≤n→phi B d m≤phi B d n:=by
 intro n
 induction n with
 | zero=>intro h;rw [wG.1 h];exact Nat.le_refl _
 | succ n ih =>
  intro h
  by_cases e:m=n+1
  ·rw [e];exact Nat.le_refl _
  ·rw [phi];have:=ih (by omega);omega
theorem rK {B:Nat} {d:Nat→Bool} {m:Nat}:∀{n:Nat},m≤n→n≤B→phi B d n+2 ^ (B-n)≤phi B d m+2 ^ (B-m):=by
 intro n
 induction n with
 | zero=>intro h _;rw [wG.1 h];exact Nat.le_refl _
 | succ n ih =>
  intro h hB
  by_cases e:m=n+1
  ·rw [e];exact Nat.le_refl _
  ·have h1:=ih (by omega) (by omega)
   rw [phi]
   have h2:2 ^ (B-n)=2 ^ (B-(n+1))+2 ^ (B-(n+1)):=by
    rw [show B-n=(B-(n+1))+1 by omega,wC];omega
   have h3:B-1-n=B-(n+1):=by omega
   have h4:0<2 ^ (B-(n+1)):=jQ (by omega)
   rw [h3]
   split<;>omega
theorem phi_lt {B:Nat} {d:Nat→Bool} {n:Nat} (h:n≤B):phi B d n<2 ^ B:=by
 have:=rK (d:=d) (zS n) h
 have h2:0<2 ^ (B-n):=jQ (by omega)
 rw [phi] at this
 simp at this
 omega
theorem phi_flip {B:Nat} {d d2:Nat→Bool} {k n:Nat} (hk:k<n) (hn:n≤B) (h1:d k=true) (h2:d2 k=false) (h3:∀p,p<k→d2 p=d p):phi B d n+1≤phi B d2 (k+1):=by
 have h4:=rK (d:=d) (m:=k+1) (n:=n) (by omega) hn
 rw [phi,if_pos h1] at h4
 rw [phi,h2,iV h3]
 have h5:0<2 ^ (B-n):=jQ (by omega)
 have h6:B-1-k=B-(k+1):=by omega
 rw [h6]
 simp
 omega
def decd (e:Eng) (p:Nat):Bool:=decide (p∈e.st)
def Eng.phi (B:Nat) (e:Eng):Nat:=Go.Proofs.Yticieifacalocaa.phi B (decd e) e.tr.length
section
variable {f:Form} {B N:Nat} {Lo:Int}
def maxC (B:Nat):Nat:=4 * 2 ^ B+100
structure Srch (f:Form) (B N:Nat) (s:Sol) (conf c0 base:Nat):Prop where
 i:SolI f f B N s s.e.hd (34603041 * ((conf:Int) * B+s.e.hd))
 ph:conf≤c0+s.e.phi B
 rs:(c0=0∧s.rst=100)∨(100≤c0∧s.rst=c0+c0 / 2)
 lt:(conf:Int)<s.rst
 c0:c0≤3 * 2 ^ B+100
 cl:s.e.cls.length≤base+2 * conf+unitsOf s
structure ModelOk (f:Form) (B:Nat) (val:List Int):Prop where
 len:val.length=B
 v3:∀i,i<B→val.getD i 0=1∨val.getD i 0 = -1
 cl:∀g∈f.clauses,∃x∈g,litB B x=true∧tv val x=1
 sol:∃X:Int→Int,∀v:Nat,v<B→∀d,bound f.atoms (if 0<val.getD v 0 then (v:Int)+1 else -((v:Int)+1))=some d→X d.x≤X d.y+d.c
theorem model_ok (hq:SolQ f B N) {s:Sol} (hs:SolI f f B N s s.e.hd Lo) (hhd:s.e.hd=s.e.tr.length) (hall:∀v,v<B→s.e.val.getD v 0≠0):ModelOk f B s.e.val:=by
 have ht:=hs.g.t
 have hv:∀i,i<B→s.e.val.getD i 0=1∨s.e.val.getD i 0 = -1:=fun i hi=>by
  have:=ht.v3 i
  have:=hall i hi
  omega
 have hone:∀x,litB B x=true→tv s.e.val x=1∨tv s.e.val x = -1:=fun x hx=>by
  have:=hv (vr x) (wN.1 hx).2
  unfold tv
  split<;>omega
 refine ⟨ht.vl,hv,fun g hg => ?_,fun v=>gi s.num v,fun v hvB d hd => ?_⟩
 ·have hgl:=hq.cs g hg
  rcases hs.g.i g hg with h|⟨c,h1,h2,h3⟩
  ·have hn:=wZ g
   rw [h] at hn
   rcases hn with ⟨x,hx,hb⟩|⟨x,hx,ho,h0⟩
   ·rw [eC hq.bl (hgl x hx)] at hb;cases hb
   ·rcases hone x (hgl x hx) with h1|h1
    ·exact ⟨x,hx,hgl x hx,h1⟩
    ·exact ⟨-x,ho,hgl _ ho,by rw [tv_neg h0];omega⟩
  ·have hfc:=hs.g.c c h1
   have hmem:∀x,x∈s.e.cl c→x∈g:=fun x hx=>by
    have hn:=wZ g
    rw [h2] at hn
    exact (hn.2.1 x).1 (((gV hq.bl hfc).2.2 x).2 hx)
   have hfin:∀x,x∈s.e.cl c→x∈s.e.tr→∃x∈g,litB B x=true∧tv s.e.val x=1:=fun x hx hxt=>⟨x,hmem x hx,hfc.1 x hx,(ht.tr x (hfc.1 x hx)).2 hxt⟩
   rcases h3 with ⟨h3,h4⟩|⟨l,h3,h4,h5⟩
   ·have hg0:s.e.g0 c∈s.e.cl c:=getD_mem (by omega)
    have hg1:s.e.g1 c∈s.e.cl c:=getD_mem (by omega)
    rcases hone _ (hfc.1 _ hg0) with h6|h6
    ·exact ⟨_,hmem _ hg0,hfc.1 _ hg0,h6⟩
    ·have h7:=(ht.false_ (hfc.1 _ hg0)).1 h6
     have h8:=((hs.g.w.w3 c h4).1 (by rw [hhd,yI];exact h7)).1
     exact hfin _ hg1 h8
   ·exact hfin l (by rw [h3];simp) h4
 ·
  have hl:litB B (if 0<s.e.val.getD v 0 then (v:Int)+1 else -((v:Int)+1))=true:=by
   refine wN.2 ⟨?_,?_⟩
   ·split<;>omega
   ·unfold vr;split<;>omega
  have htv:tv s.e.val (if 0<s.e.val.getD v 0 then (v:Int)+1 else -((v:Int)+1))=1:=by
   have h1:=hv v hvB
   unfold tv
   by_cases h2:0<s.e.val.getD v 0
   ·rw [if_pos h2,if_neg (by omega)]
    have:vr ((v:Int)+1)=v:=by unfold vr;omega
    rw [this];omega
   ·rw [if_neg h2,if_pos (by omega)]
    have:vr (-((v:Int)+1))=v:=by unfold vr;omega
    rw [this];omega
  have hm:=(ht.tr _ hl).1 htv
  have:=hs.t.sat ⟨(if 0<s.e.val.getD v 0 then (v:Int)+1 else -((v:Int)+1)),d.x,d.y,d.c⟩ (by
   rw [xT]
   refine ⟨_,by rw [hhd,yI];exact hm,?_⟩
   unfold arcOf
   rw [hd];rfl)
  exact this
theorem searchF_ok (hq:SolQ f B N) (hB:B≤24) {base:Nat} (hbase:base≤65536):∀(m fuel:Nat) (s:Sol) (conf c0:Nat),Srch f B N s conf c0 base→(maxC B-conf) * (B+2)+(B-s.e.tr.length)<m→m+B+2+200 * 576460752303423488≤fuel →
  ∃s2 r,gL f fuel conf s=some (s2,r)∧((r = -1∧ModelOk f B s2.e.val)∨(∃c:Nat,r=c∧c<s2.e.cls.length∧s2.e.st=[]∧(∃x,x∈s2.e.cl c)∧(∀x∈s2.e.cl c, -x∈s2.e.tr)∧s2.e.cls.length≤base+2 * maxC B+B+1∧∃h Lo,SolI f f B N s2 h Lo)):=by
 have h2B:2 ^ B≤16777216:=zZ (kY (by omega) hB) (by decide)
 intro m
 induction m with
 | zero=>intro fuel s conf c0 _ h;omega
 | succ m ih =>
  intro fuel s conf c0 hs hm hfu
  have hi:=hs.i
  have hBt:=hi.g.t.len
  have hhdl:=hi.g.l.hd
  have hphi:=phi_lt (d:=decd s.e) hBt
  have hph:=hs.ph
  unfold Eng.phi at hph
  have hc0:=hs.c0
  have hconf:conf+1≤maxC B:=by unfold maxC;omega
  have hmc:maxC B≤67108964:=by unfold maxC;omega
  have hul:=dO hi.d
  have hcl:=hs.cl
  have hB0:(B:Int)≤24:=by omega
  have hcb:(conf:Int) * B≤67108964 * 24:=vO (kI hB0 (by omega)) (vT (by omega) (by omega))
  have hcb0:0≤(conf:Int) * B:=Int.mul_nonneg (by omega) (by omega)
  cases fuel with
  | zero=>omega
  | succ fuel =>
   rw [gL]
   obtain ⟨s1,c,q1,q2⟩:=propS_ok hq (B+1-s.e.hd) fuel s _ (by omega) (by omega) hi (by omega) (by
    have:(s.e.hd:Int)≤B:=by omega
    have h9:34603041 * ((conf:Int) * B+s.e.hd)+34603041 * ((B:Int)-s.e.hd)=34603041 * ((conf:Int) * B+B):=by rw [←kH];congr 1;omega
    rw [h9]
    omega) (by unfold LIM;omega)
   rw [q1]
   simp only
   obtain ⟨mm,hmm⟩:=q2.tr
   have hcl1:=q2.cl
   have hhd1:=q2.hd
   have hun1:unitsOf s1=unitsOf s:=by unfold unitsOf;rw [q2.unt]
   have htl1:s.e.tr.length≤s1.e.tr.length:=by rw [hmm,zK];omega
   have hdec:∀p,decd s1.e p=decd s.e p:=fun p=>by unfold decd;rw [q2.st]
   obtain ⟨Lo2,l1,l2,l3⟩:=q2.ok
   rcases l3 with ⟨rfl,l4,l5,l6⟩|⟨c,rfl,k1,k2,k3,h,k4,k5,k6⟩
   ·
    rw [if_pos (by decide)]
    have hBt1:=l6.g.t.len
    have hLo:Lo2≤34603041 * ((conf:Int) * B+s1.e.hd):=by
     have h9:34603041 * ((conf:Int) * B+s.e.hd)+34603041 * ((s1.e.hd:Int)-s.e.hd)=34603041 * ((conf:Int) * B+s1.e.hd):=by rw [←kH];congr 1;omega
     omega
    have hi1:SolI f f B N s1 s1.e.hd (34603041 * ((conf:Int) * B+s1.e.hd)):=⟨l6.g,⟨l6.t.nl,l6.t.al,l6.t.cl,l6.t.ar,l6.t.ac,l6.t.sat,fun v v0 v1=>by have:=l6.t.lo v v0 v1;omega⟩,l6.d⟩
    have hLb:0≤34603041 * ((conf:Int) * B+s1.e.hd)∧34603041 * ((conf:Int) * B+s1.e.hd)≤576460752303423488:=by
     have:(s1.e.hd:Int)≤B:=by omega
     omega
    rcases decideF_ok hq hi1 l5 hLb with ⟨d1,d2⟩|⟨l,d1,d2⟩
    ·rw [d1]
     exact ⟨s1, -1,rfl, .inl ⟨rfl,model_ok hq hi1 l5 d2⟩⟩
    ·rw [d1]
     simp only
     have hph2:conf≤c0+(({ s1.e with st:=s1.e.st++[s1.e.tr.length] }:Eng).assign l (-1)).phi B:=by
      unfold Eng.phi
      show conf≤c0+phi B _ (s1.e.tr++[l]).length
      rw [zK,qJ,phi]
      have h8:phi B (decd (({ s1.e with st:=s1.e.st++[s1.e.tr.length] }:Eng).assign l (-1))) s1.e.tr.length=phi B (decd s.e) s1.e.tr.length:=iV fun p hp=>by
       rw [←hdec]
       unfold decd
       refine vW.2 ?_
       show p∈s1.e.st++[s1.e.tr.length]↔_
       rw [zI,zH]
       exact ⟨fun h=>h.elim id fun h=>by omega, .inl⟩
      have h9:=rT (B:=B) (d:=decd s.e) htl1
      omega
     obtain ⟨s2,r,z1,z2⟩:=ih fuel { s1 with e:=({ s1.e with st:=s1.e.st++[s1.e.tr.length] }:Eng).assign l (-1) } conf c0 ⟨d2,hph2,by show (c0=0∧s1.rst=100)∨_;rw [q2.rst];exact hs.rs,by show _<s1.rst;rw [q2.rst];exact hs.lt,hs.c0,by show s1.e.cls.length≤base+2 * conf+unitsOf s1;omega⟩ (by
      show _+(B-(s1.e.tr++[l]).length)<m
      have h9:(s1.e.tr++[l]).length≤B:=d2.g.t.len
      simp only [zK,qJ] at h9 ⊢
      omega) (by omega)
     exact ⟨s2,r,z1,z2⟩
   ·
    rw [if_neg (by omega)]
    have hul1:=dO k6.d
    by_cases hst:s1.e.st.length=0
    ·rw [if_pos hst]
     obtain ⟨x,hx, -⟩:=k3
     exact ⟨s1,c,rfl, .inr ⟨c,rfl,k1,vK.1 hst,⟨x,hx⟩,k2,by omega,h,Lo2,k6⟩⟩
    ·rw [if_neg hst]
     obtain ⟨s2,y1,y2⟩:=learnF_ok hq k6 k4 (fun e=>hst (by rw [e];rfl)) k1 k2 k3 (by unfold LIM;omega) (fuel:=fuel) (by omega)
     rw [Int.toNat_natCast,y1]
     simp only
     obtain ⟨level,first,l,b1,b2,b3,b4⟩:=y2.bk
     have hcnt:=y2.cnt
     have hul2:=dO y2.i.d
     have hfm:=List.mem_of_getElem? b1
     have hf1:=(k6.g.l.sl first hfm).1
     have hBt1:=k6.g.t.len
     have htl2:s2.e.tr.length=first+1:=by rw [b4];simp;omega
     obtain ⟨st1,st2⟩:=mX k6.g.l.sp b1
     have hrst:s2.rst=s.rst:=y2.rst.trans q2.rst
     have hflip:phi B (decd s1.e) s1.e.tr.length+1≤s2.e.phi B:=by
      unfold Eng.phi
      rw [htl2]
      refine phi_flip hf1 hBt1 (by unfold decd;simpa using hfm) ?_ fun p hp => ?_
      ·unfold decd
       rw [b2]
       refine decide_eq_false fun hm => ?_
       have:=st1 first hm;omega
      ·unfold decd
       refine vW.2 ?_
       rw [b2]
       exact ⟨fun h=>zO h,fun h=>st2 p h hp⟩
     have hphi2:phi B (decd s.e) s.e.tr.length≤phi B (decd s1.e) s1.e.tr.length:=by
      rw [iV (d:=decd s1.e) (d2:=decd s.e) fun p _=>hdec p]
      exact rT htl1
     have hph3:conf+1≤c0+s2.e.phi B:=by omega
     have hphlt:s2.e.phi B<2 ^ B:=phi_lt y2.i.g.t.len
     have hrs:=hs.rs
     have hlt:=hs.lt
     have hr1:0≤s2.rst∧s2.rst<LIM:=by
      rw [hrst];unfold LIM
      rcases hrs with ⟨a1,a2⟩|⟨a1,a2⟩<;>omega
     rw [if_pos ⟨by omega,by unfold LIM;omega,hr1.1,hr1.2⟩]
     have key:∀acty:List Int,acty.length=B→∃s4 r,(if s2.rst≤(conf:Int)+1 then
       match backF f { s2 with acty:=acty,rst:=s2.rst+((conf:Int)+1) / 2 } 0 with
       | none=>none
       | some s4=>gL f fuel ((conf:Int)+1) s4
       else gL f fuel ((conf:Int)+1) { s2 with acty:=acty })=some (s4,r)∧((r = -1∧ModelOk f B s4.e.val)∨(∃c:Nat,r=c∧c<s4.e.cls.length∧s4.e.st=[]∧(∃x,x∈s4.e.cl c)∧(∀x∈s4.e.cl c, -x∈s4.e.tr)∧s4.e.cls.length≤base+2 * maxC B+B+1∧∃h Lo,SolI f f B N s4 h Lo)):=by
      intro acty hact
      have hcast:((conf:Int)+1)=((conf+1:Nat):Int):=by omega
      have hmul:((conf+1:Nat):Int) * B=(conf:Int) * B+B:=by rw [jE,Int.add_mul];simp
      have hLo:∀n:Nat,Lo2≤34603041 * (((conf+1:Nat):Int) * B+n):=fun n=>by
       rw [hmul]
       have:(s1.e.hd:Int)≤B:=by have:=k6.g.l.hd;omega
       have h9:34603041 * ((conf:Int) * B+s.e.hd)+34603041 * ((s1.e.hd:Int)-s.e.hd)=34603041 * ((conf:Int) * B+s1.e.hd):=by rw [←kH];congr 1;omega
       omega
      have hi2:SolI f f B N { s2 with acty:=acty } s2.e.hd Lo2:=⟨y2.i.g,y2.i.t,⟨y2.i.d.ol,y2.i.d.dv,y2.i.d.ul,hact,y2.i.d.un⟩⟩
      have meas:∀tl:Nat,(maxC B-(conf+1)) * (B+2)+(B-tl)<m:=fun tl=>by
       have h9:(maxC B-conf) * (B+2)=(maxC B-(conf+1)) * (B+2)+(B+2):=by
        rw [show maxC B-conf=(maxC B-(conf+1))+1 by omega,wF];simp
       omega
      by_cases hres:s2.rst≤(conf:Int)+1
      ·rw [if_pos hres]
       have hce:((conf:Int)+1)=s2.rst:=by rw [hrst] at hres ⊢;omega
       have hnew:conf+1≤3 * 2 ^ B+100∧100≤conf+1:=by
        rw [hrst] at hce
        rcases hrs with ⟨a1,a2⟩|⟨a1,a2⟩
        ·omega
        ·omega
       by_cases hst2:s2.e.st.length=0
       ·have hb:backF f { s2 with acty:=acty,rst:=s2.rst+((conf:Int)+1) / 2 } 0=some { s2 with acty:=acty,rst:=s2.rst+((conf:Int)+1) / 2 }:=by
         unfold backF
         rw [if_pos (by show s2.e.st.length≤0;omega)]
        rw [hb]
        simp only
        rw [hcast]
        obtain ⟨s4,r,z1,z2⟩:=ih fuel { s2 with acty:=acty,rst:=s2.rst+((conf+1:Nat):Int) / 2 } (conf+1) (conf+1) ⟨⟨hi2.g,⟨hi2.t.nl,hi2.t.al,hi2.t.cl,hi2.t.ar,hi2.t.ac,hi2.t.sat,fun v v0 v1=>⟨vO (jM (hLo _)) (hi2.t.lo v v0 v1).1,(hi2.t.lo v v0 v1).2⟩⟩,⟨hi2.d.ol,hi2.d.dv,hi2.d.ul,hi2.d.al,hi2.d.un⟩⟩,by omega, .inr ⟨hnew.2,by show s2.rst+_=_;rw [←hce];omega⟩,by show _<s2.rst+_;rw [←hce];omega,hnew.1,by show s2.e.cls.length≤base+2 * (conf+1)+unitsOf s2;omega⟩ (meas _) (by omega)
        exact ⟨s4,r,z1,z2⟩
       ·obtain ⟨f0,hf0⟩:∃f0,s2.e.st[0]? = some f0:=⟨_,List.getElem?_eq_getElem (by omega)⟩
        obtain ⟨s4,w1,w2,w3,w4,w5,w6,w7,w8,w9,w10,w11,w12⟩:=sQ hq (s:={ s2 with acty:=acty,rst:=s2.rst+((conf:Int)+1) / 2 }) (h:=s2.e.hd) ⟨hi2.g,hi2.t,⟨hi2.d.ol,hi2.d.dv,hi2.d.ul,hi2.d.al,hi2.d.un⟩⟩ (fun s' h'=>(hi2.g.l.sl s' h').2) (level:=0) (first:=f0) hf0
        rw [w1]
        simp only
        rw [hcast]
        have w6':s4.e.cls=s2.e.cls:=w6
        have hu4:unitsOf s4=unitsOf s2:=by unfold unitsOf;rw [w10]
        have w12':s4.rst=s2.rst+((conf:Int)+1) / 2:=w12
        obtain ⟨s5,r,z1,z2⟩:=ih fuel s4 (conf+1) (conf+1) ⟨⟨w2.g,⟨w2.t.nl,w2.t.al,w2.t.cl,w2.t.ar,w2.t.ac,w2.t.sat,fun v v0 v1=>⟨vO (jM (hLo _)) (w2.t.lo v v0 v1).1,(w2.t.lo v v0 v1).2⟩⟩,w2.d⟩,by omega, .inr ⟨hnew.2,by rw [w12',←hce];omega⟩,by rw [w12',←hce];omega,hnew.1,by rw [w6',hu4];omega⟩ (meas _) (by omega)
        exact ⟨s5,r,z1,z2⟩
      ·rw [if_neg hres,hcast]
       obtain ⟨s4,r,z1,z2⟩:=ih fuel { s2 with acty:=acty } (conf+1) c0 ⟨⟨hi2.g,⟨hi2.t.nl,hi2.t.al,hi2.t.cl,hi2.t.ar,hi2.t.ac,hi2.t.sat,fun v v0 v1=>⟨vO (jM (hLo _)) (hi2.t.lo v v0 v1).1,(hi2.t.lo v v0 v1).2⟩⟩,hi2.d⟩,hph3,by show (c0=0∧s2.rst=100)∨_;rw [hrst];exact hrs,by show _<s2.rst;omega,hc0,by show s2.e.cls.length≤base+2 * (conf+1)+unitsOf s2;omega⟩ (meas _) (by omega)
       exact ⟨s4,r,z1,z2⟩
     by_cases h256:((conf:Int)+1) % 256=0
     ·have:=key (s2.acty.map fun x=>x.tdiv 2) (by rw [List.length_map];exact y2.i.d.al)
      rw [if_pos h256]
      exact this
     ·have:=key s2.acty y2.i.d.al
      rw [if_neg h256]
      exact this
end
section
variable {f:Form} {B N:Nat}
theorem sR (hq:SolQ f B N) (hB:B≤24) {fuel:Nat} (hfu:(maxC B) * (B+2)+B+1+B+2+200 * 576460752303423488≤fuel):(∃val,solveF fuel wS f=some (.inl val)∧ModelOk f B val)∨∃l,solveF fuel wS f=some (.inr l)∧RefOk f l:=by
 have h2B:2 ^ B≤16777216:=zZ (kY (by omega) hB) (by decide)
 have hmc:maxC B≤67108964:=by unfold maxC;omega
 have hbn:f.bools.toNat=B:=by have:=hq.b;omega
 have hnn:f.ints.toNat=N:=by have:=hq.n;omega
 obtain ⟨e1,c,q1,q2,q3⟩:=loadF_ok (f:=f) hq.bl f.clauses [] (Eng.new B) (Load.new f B) hq.cs
 have hcl:=hq.cl
 have hlen:e1.cls.length≤32768:=by simp [Eng.new] at q2;omega
 have hs0:(Sol.new f).e=Eng.new B:=by unfold Sol.new;rw [hbn]
 have hth:ThI f B N (Sol.new f).num (Sol.new f).arcs (Sol.new f).act [] 0:=by
  unfold Sol.new
  rw [hbn,hnn]
  refine ⟨by simp,by simp,by simp,fun y hy => ?_,fun v hv => ?_,fun a ha=>by simp at ha,fun v v0 v1 => ?_⟩
  ·rw [List.getD_eq_getElem?_getD,List.getElem?_replicate,if_pos hy];rfl
  ·rw [List.getD_eq_getElem?_getD,List.getElem?_replicate,if_pos hv];simp
  ·unfold gi
   rw [List.getD_eq_getElem?_getD,List.getElem?_map,uC (by omega)]
   have:=hq.nl
   simp only [kO,yE,Int.ofNat_eq_natCast]
   omega
 have hdv:∀{gs:List (List Int)},e1.inp.length=e1.cls.length→(∀c k,e1.inp[c]? = some k→∃g,gs[k]? = some g∧wS g=some (e1.nmc c))→gs=f.clauses →
   DvI f B { Sol.new f with e:=e1,org:=e1.inp.map fun i=>⟨⟨1,(i:Nat),[],0,0,0⟩,0,[]⟩ }:=by
  intro gs h1 h2 h3
  subst h3
  refine ⟨by simp [h1],fun c o ho => ?_,by simp [Sol.new,hbn],by simp [Sol.new,hbn],fun v hv => .inl ?_⟩
  ·have ho2:(e1.inp.map fun (i:Nat)=>(⟨⟨1,(i:Int),[],0,0,0⟩,0,[]⟩:Org))[c]? = some o:=ho
   rw [List.getElem?_map] at ho2
   obtain ⟨k,hk,rfl⟩:=qT.1 ho2
   obtain ⟨g,g1,g2⟩:=h2 c k hk
   have hkl:=(zG.1 g1).1
   refine ⟨.inr (.inl rfl),fun _=>⟨by simp,g,by simpa using g1,g2⟩,fun h=>absurd h (by simp),fun h=>absurd h (by simp),fun h=>absurd h (by simp),by simp,by simp,fun _=>⟨rfl,rfl⟩,by simp,by simp,by simp,by simp only;omega,rfl,rfl,rfl⟩
  ·show (List.replicate f.bools.toNat (-1:Int)).getD v 0 = -1
   rw [List.getD_eq_getElem?_getD,List.getElem?_replicate,if_pos (by omega)];rfl
 have hrun:solveF fuel wS f=(if c<0 then
   match gL f fuel 0 { Sol.new f with e:=e1,org:=e1.inp.map fun i=>⟨⟨1,(i:Nat),[],0,0,0⟩,0,[]⟩ } with
   | none=>none
   | some (s2,c2)=>if c2<0 then some (.inl s2.e.val) else (refuteF fuel s2 c2.toNat).map .inr
  else (refuteF fuel { Sol.new f with e:=e1,org:=e1.inp.map fun i=>⟨⟨1,(i:Nat),[],0,0,0⟩,0,[]⟩ } c.toNat).map .inr):=by
  unfold solveF
  simp only
  rw [hs0]
  have:dA wS 0 f.clauses (Eng.new B)=some (e1,c):=q1
  rw [this]
  rfl
 rw [hrun]
 rcases q3 with ⟨rfl,hL⟩|⟨c,rfl,c1,c2,c3,c4,c5,c6,c7⟩
 ·rw [if_pos (by decide)]
  rw [xW] at hL
  have hi:EngI f B e1 e1.hd:=by rw [hL.hd];exact hL.i
  have hsol:SolI f f B N { Sol.new f with e:=e1,org:=e1.inp.map fun i=>⟨⟨1,(i:Nat),[],0,0,0⟩,0,[]⟩ } e1.hd (34603041 * (((0:Nat):Int) * B+e1.hd)):=by
   refine ⟨hi,?_,hdv hL.il hL.ip rfl⟩
   show ThI f B N (Sol.new f).num (Sol.new f).arcs (Sol.new f).act (e1.tr.take e1.hd) _
   rw [hL.hd,uK]
   simpa using hth
  obtain ⟨s2,r,z1,z2⟩:=searchF_ok hq hB (base:=e1.cls.length) (by omega) ((maxC B) * (B+2)+B+1) fuel { Sol.new f with e:=e1,org:=e1.inp.map fun i=>⟨⟨1,(i:Nat),[],0,0,0⟩,0,[]⟩ } 0 0
   ⟨hsol,zS _, .inl ⟨rfl,rfl⟩,by simp [Sol.new],zS _,by show e1.cls.length≤_;omega⟩ (by simp only [Nat.sub_zero];omega) (by omega)
  have z1':gL f fuel 0 { Sol.new f with e:=e1,org:=e1.inp.map fun i=>⟨⟨1,(i:Nat),[],0,0,0⟩,0,[]⟩ }=some (s2,r):=z1
  rw [z1']
  rcases z2 with ⟨rfl,hm⟩|⟨c,rfl,k1,k2,⟨x,k3⟩,k4,k5,h,Lo,k6⟩
  ·exact .inl ⟨s2.e.val,rfl,hm⟩
  ·right
   obtain ⟨l,l1,l2⟩:=mG hq k6 k2 k1 k4 (by
    have h1:s2.e.cls.length+B+2≤140000000:=by omega
    have h2:2 * B+1≤49:=by omega
    have:=vQ h1 h2
    unfold LIM;omega) (fun e=>by rw [e] at k3;simp at k3) (fuel:=fuel) (by omega)
   refine ⟨l,?_,l2⟩
   simp only
   rw [if_neg (by omega),Int.toNat_natCast,l1];rfl
 ·rw [if_neg (by omega)]
  right
  have hsol:SolI f (f.with []) B N { Sol.new f with e:=e1,org:=e1.inp.map fun i=>⟨⟨1,(i:Nat),[],0,0,0⟩,0,[]⟩ } 0 0:=by
   refine ⟨c4,?_,hdv c6 c7 (by simp)⟩
   show ThI f B N (Sol.new f).num (Sol.new f).arcs (Sol.new f).act (e1.tr.take 0) _
   rw [uK]
   exact hth
  obtain ⟨l,l1,l2⟩:=mG hq hsol c2 (c:=c) (by show c<e1.cls.length;omega) c5 (by
    show (e1.cls.length+B+2) * (2 * B+1)<LIM
    have h1:e1.cls.length+B+2≤140000000:=by omega
    have h2:2 * B+1≤49:=by omega
    have:=vQ h1 h2
    unfold LIM;omega) (fun _=>⟨c1,⟨⟨1,((e1.inp.getD c 0:Nat):Int),[],0,0,0⟩,0,[]⟩,by
     show (e1.inp.map fun (i:Nat)=>(⟨⟨1,(i:Int),[],0,0,0⟩,0,[]⟩:Org))[c]? = _
     rw [List.getElem?_map,List.getD_eq_getElem?_getD,List.getElem?_eq_getElem (show c<e1.inp.length by omega)]
     rfl,by simp⟩) (fuel:=fuel) (by omega)
  exact ⟨l,by rw [Int.toNat_natCast,l1];rfl,l2⟩
theorem solveF_ok (hq:SolQ f B N) (hB:B≤24):∃fuel,(∃val,solveF fuel wS f=some (.inl val)∧ModelOk f B val)∨∃l,solveF fuel wS f=some (.inr l)∧RefOk f l :=
 ⟨_,sR hq hB (Nat.le_refl _)⟩
end
end Go.Proofs.Yticieifacalocaa
