/-
  The walk of the statement RulesPrinted. (Printed by printed_gen.py.)
-/
import Derived.Test.YtlbbbapiklendaaGreatDoorMPgK
namespace Go.Proofs.YtlbbbapiklendaaGreatDoor
open Go.IntKind renaming i64->C
open Go.Value renaming int->B,string->E,slice->A
open Go.Obj renaming cells->D
open Option renaming none->F
open Go.Lib renaming hid->Lq7
open Go.Act renaming put->aP
open And renaming intro->aIn
open Go.RowKit.Below renaming refl->bRf
set_option maxRecDepth 100000
set_option maxHeartbeats 16000000
open Go Go.RowKit
theorem Ra{s:List UInt8}{n:Nd}(h:readL s=some (.ok n))(hs:s.length<=600):∃kids l',n = .mk 1 ⟨#[]⟩ 1 1 kids/\Gi 60 kids/\Dj 65536 65540 kids/\kids.length<=65540/\(printL kids).length<=39000/\readL (printL kids)=some (.ok (.mk 1 ⟨#[]⟩ 1 1 l'))/\FlB (Kh RuB) (loadL s) (loadL (printL kids)):=by
 obtain⟨kids,rfl,aW⟩:=read_okd h;obtain⟨k2,e2,hlen,bI⟩:=(Ej s).2 _ h;cases e2;have hl:=print_len h;have hl2:(printL kids).length<=39000:=(by omega);obtain⟨l',hr,hb⟩:=Z2 aW (by omega);exact⟨kids,l',rfl,aW,bI,hlen,hl2,hr,Z7 h hr hb.symm⟩
theorem Xz{gx gy:Nat}{w W:World}{c0 c1 c2 c3 c4 d0 d1 d2 d3 d4:Value}{t:TypeId}(hne:gx≠gy)(hx:w.heap.size<=gx)(hy:w.heap.size<=gy)(hb:Below w.heap.size w W)(h1:W.heap[gx]? = some (D #[c0,c1,c2,c3,c4] t (0,0)))(h2:W.heap[gy]? = some (D #[d0,d1,d2,d3,d4] t (0,0)))(s1 s2 z:Value)(o:Obj){W':World}
  (hW:W'=((((((((W.setCell ⟨gx,3,F⟩ z).setCell ⟨gx,4,F⟩ z).setCell ⟨gy,3,F⟩ z).setCell ⟨gy,4,F⟩ z).setCell ⟨gx,2,F⟩ s1).setCell ⟨gy,2,F⟩ s2).alloc o).alloc o)):
  W'.heap[gx]? = some (D #[c0,c1,s1,z,z] t (0,0))/\W'.heap[gy]? = some (D #[d0,d1,s2,z,z] t (0,0))/\Below w.heap.size w W':=by
 have b1:=hb.setCell (p:=⟨gx,3,F⟩) hx z;have b2:=b1.setCell (p:=⟨gx,4,F⟩) hx z;have b3:=b2.setCell (p:=⟨gy,3,F⟩) hy z;have b4:=b3.setCell (p:=⟨gy,4,F⟩) hy z;have b5:=b4.setCell (p:=⟨gx,2,F⟩) hx s1;have b6:=b5.setCell (p:=⟨gy,2,F⟩) hy s2;have a2:=Af (Af h1 3 z) 4 z;have a4:=((Ad hne 4 z).trans ((Ad hne 3 z).trans a2));have a6:=(Ad hne 2 s2).trans (Af a4 2 s1);have e1:gy≠gx:=fun e=>hne e.symm;have f2:=(Ad e1 4 z).trans ((Ad e1 3 z).trans h2);have f4:=Af (Af f2 3 z) 4 z;have f6:=Af ((Ad e1 2 s1).trans f4) 2 s2;generalize ((((((W.setCell ⟨gx,3,F⟩ z).setCell ⟨gx,4,F⟩ z).setCell ⟨gy,3,F⟩ z).setCell ⟨gy,4,F⟩ z).setCell ⟨gx,2,F⟩ s1).setCell ⟨gy,2,F⟩ s2)=S at hW b6 a6 f6;have hk:=(Cl S o o).2.2.1;rw[<-hW] at hk;exact⟨stays a6 hk,stays f6 hk,b6.trans (hk.mono b6.size)⟩
theorem Vb(t:ByteArray)(w:World)(ht:t.size<=9223372036854775807)(hE:Lt w)(hT:Em w)(hB:StdB w):
    Calls Tryz.prog 4 #[E t] w (Lv w):=by
  have aY:=Lq7 (fun W (h:Below w.heap.size w W)=>Xy W (hE.below h) (hT.below h) (hB.below h))
  have aZ:=Lq7 (fun(t:ByteArray) (ht:t.size<=9223372036854775807) W (h:Below w.heap.size w W)=>Ru t W ht (hE.below h) (hT.below h) (hB.below h))
  have bJ:=Lq7 (Qo t w ht hE (Ej _).1)
  have HP:Hid (Ms w):=Lq7 ⟨hE,hT⟩
  have Ht:=Lq7 ht
  clear hE hT hB ht
  go_enter Tryz.func4,Tryz.ntmps4
  by_cases h6:t.size<=600
  rotate_left
  · have aR:=Lq7 (aY.out _ (bRf _ w))
    clear aY aZ bJ
    go_wp2_with fail
    refine aR.out.mono ?_
    rintro e w2 ⟨rfl,aA⟩
    have aB:=Lq7 aA
    go_wp2_with fail
    go_ret
    exact⟨rfl,aB.out⟩
  go_wp2_with fail
  refine bJ.out.mono ?_
  rintro e w1 ⟨bA,aU⟩
  cases hrd:readL t.data.toList with
  | none=>exact absurd hrd (Ej _).1
  | some r=>
    rw[hrd] at aU
    cases r with
    | error x=>
      have cF:=Tq hrd
      obtain⟨xa,xb,xc⟩:=x
      obtain rfl:e = .returned (.tuple #[.agg zeroNode,B C xa,.agg #[B C xb,B C xc]]):=aU
      have hxa:(xa != 0)=true:=by simpa using cF
      obtain⟨n1,n2,n3,n4⟩:=Cl w1 (.cells zeroNode 27) (D #[B C xb,B C xc] 24)
      have aB:=Lq7 (bA.trans (n3.mono bA.size))
      have aR:=Lq7 (aY.out _ aB.out)
      clear aY aZ bJ HP Ht n1 n2 n3 n4 hrd cF
      unfold zeroNode at aR aB
      unfold zeroNode
      go_wp2_with fail
      refine aR.out.mono ?_
      rintro e w2 ⟨rfl,aA⟩
      have Hb3:=Lq7 (aB.out.trans (aA.mono aB.out.size))
      go_wp2_with fail
      go_ret
      exact⟨rfl,Hb3.out⟩
    | ok n=>
      obtain⟨kids,l0,rfl,aW,bI,hlen,cG,aV,cH⟩:=Ra hrd (by rw[Array.length_toList];exact h6)
      obtain⟨v,rfl,hv⟩:=aU
      obtain⟨a0,c0,rfl,bO⟩:=hv.open
      obtain⟨n1,n2,n3,n4⟩:=Cl w1 (D #[B C 1,E ⟨#[]⟩,B C 1,B C 1,A a0 kids.length c0] 27) (D #[B C 0,B C 0] 24)
      have aA:=bA.trans (n3.mono bA.size)
      have HN:=Lq7 (aIn n1 aA)
      have bB:=Lq7 (prt_any (fun b=>b<w1.heap.size) kids 1 1 _ _ ((hv.mono fun b _ hl=>⟨hl,hl,rfl⟩).bel n3) (fun x hx=>Nat.lt_of_lt_of_le hx n3.size) aW bI hlen (HP.out.below aA) (by omega) (by rw[aV];exact Option.some_ne_none _))
      unfold PPrn at bB
      rw[aV] at bB
      have bP:=Lq7 cH
      have bQ:=Lq7 cG
      generalize printL kids=pk at bB bP bQ
      generalize kids.length=nk at *
      clear bO hv n1 n2 n3 n4 aW bI hlen cG aV cH bJ HP bA aA hrd
      go_wp2_with fail
      generalize World.alloc _ _=W2 at HN bB |-
      obtain⟨q0,q1,q2,q3,q4,q5,-⟩:=Aa HN.out.1
      go_wp2_with fail
      refine bB.out.mono ?_
      rintro e w2 ⟨aA,o,rfl,ho⟩
      have aB:=Lq7 (HN.out.2.trans (aA.mono HN.out.2.size))
      have HT1:=Lq7 (aZ.out t Ht.out _ aB.out)
      have Ho:=Lq7 ho
      clear ho aA q0 q1 q2 q3 q4 q5
      go_wp2_with fail
      refine HT1.out.mono ?_
      rintro e w3 bC
      obtain⟨bR,a1,l,c1,x,y,z,rfl,aU,aE⟩:=bC.uni
      have aF:Below w3.heap.size w3 (w3.alloc (D #[B C y,B C z] 24)):=(bRf _ _).alloc (Nat.le_refl _) _
      have bS:=aB.out.trans ((bR.trans (aF.mono bR.size)).mono aB.out.size)
      have bD:=Lq7 (aIn (aU.below aF) bS)
      have bE:=Lq7 (sh_ok aE)
      have cI:=Lq7 aE
      have cJ:=Lq7 (aZ.out o (by have h1:o.data.toList.length<=39000:=(by rw[Ho.out];exact bQ.out);rw[Array.length_toList] at h1;have h2:o.size=o.data.size:=rfl;omega) _ bS)
      clear bC bR aU aE aF bS aZ
      go_wp2_with fail
      generalize World.alloc _ _=W4 at bD cJ |-
      refine cJ.out.mono ?_
      rintro e w5 bC
      obtain⟨aC,a2,l2,c2,x2,y2,z2,he,aV,aG⟩:=bC.uni
      obtain⟨rfl,bT⟩:=Sh.bare (by rw[Ho.out];exact bP.out) cI.out aG
      rw[bT.len] at he
      subst he
      have bU:=Lq7 (sh_ok aG)
      have aF:Below w5.heap.size w5 (w5.alloc (D #[B C y2,B C z2] 24)):=(bRf _ _).alloc (Nat.le_refl _) _
      have aD:=aC.trans (aF.mono aC.size)
      have HH:=Lq7 (aIn (bD.out.1.below aD) (aIn (aV.below aF) (bD.out.2.trans (aD.mono bD.out.2.size))))
      have Hal:=Lq7 bT
      have hxx:(x2 != x2)=false:=by simp
      have hll:((l.length:Int) != (l.length:Int))=false:=by simp
      clear bC aG aF aD aC aV bT bP Ho bQ cI bD
      go_upto_region 11 with fail
      generalize World.alloc _ _=W5 at HH |-
      go_wp2_with fail
      go_loopw [14] (fun i wr=>∃j:Nat,i = B C j/\j<=l.length/\Hid (Ac (fun _=>True) wr a1 (Dy l)/\Ac (fun _=>True) wr a2 (Dy l2)/\Below w.heap.size w wr)) (fun i _=>l.length-(intOf i).toNat)
      case atStart=>exact⟨0,rfl,Nat.zero_le _,HH⟩
      case round=>
        obtain⟨j,rfl,hj,aH⟩:=hrel
        have hlb:=bE.out.2
        by_cases hlt:j<l.length
        · have bG:l[j]? = some l[j]:=List.getElem?_eq_getElem hlt
          generalize l[j]=r at bG
          obtain⟨r2,bW,hru⟩:=Hal.out.at bG
          have bH:=bE.out.1 r (List.mem_of_getElem? bG)
          have bX:=bU.out.1 r2 (List.mem_of_getElem? bW)
          obtain⟨rn,ra,xb,xx,xy⟩:=r
          obtain⟨sn,sa,yb,yx,yy⟩:=r2
          obtain⟨h1,h2,h3⟩:=hru
          obtain rfl:rn=sn:=h1
          obtain rfl:ra=sa:=h2
          have bL:bareNs xb=bareNs yb:=h3
          have bY:Below wr.heap.size wr wr.drew:=(bRf _ wr).drew
          have H2:=Lq7 (aIn (aH.out.1.below bY) (aIn (aH.out.2.1.below bY) (aH.out.2.2.trans (bY.mono aH.out.2.2.size))))
          obtain⟨b,off,u1,e1,u2,e2,hae,-,hbl,r0,r1,r2,r3,r4,bZ,cA⟩:=H2.out.1.rule bG
          obtain⟨b',off',u3,e3,u4,e4,hae',-,hbl',t0,t1,t2,t3,t4,cC,cD⟩:=H2.out.2.1.rule bW
          subst hae
          subst hae'
          simp only at r0 r1 r2 r3 r4 t0 t1 t2 t3 t4 bZ cA cC cD
          rw[<-bares_len bL] at t2
          have HS:=Lq7 (fun W (h:Below wr.drew.heap.size wr.drew W)=>Xa (.mk 0 ⟨#[]⟩ 0 0 xb) (by rw[fewN];have h9:xb.length<=65540:=bH.2.2.1;exact⟨by omega,bH.2.1⟩) (.mk 0 ⟨#[]⟩ 0 0 yb) (by rw[bareN,bareN,bL]) (fun _=>True) u2 e2 u4 e4 W (cA.below h) (cD.below h))
          simp only[Nd.kind,Nd.text,Nd.lnN,Nd.clN,Nd.kids] at HS
          rw[<-bares_len bL] at HS
          have HK:=Lq7 (fun W (h:Below wr.drew.heap.size wr.drew W) (ua uc:Option Addr) (da dc:Nat)=>T7 rn ra [] 0 0 (by have h9:ra.length<=65550:=bH.2.2.2;omega) bH.1 (by rw[fewNs];trivial) (Nat.zero_le _) (fun _=>True) u1 ua u3 uc e1 da e3 dc W (bZ.below h) (Ac.nil _) (cC.below h) (Ac.nil _))
          clear bZ cA cC cD bH bX bL h3 bG bW aH
          go_wp2_with fail
          go_cut [15,16] from 60 to 93 (fun v u wc=>∃gx gy:Nat,v = .pointer (some ⟨gx,0,F⟩)/\u = .pointer (some ⟨gy,0,F⟩)/\Hid (wc.heap[gx]? = some (D #[E rn,A u1 ra.length e1,A u2 xb.length e2,B C xx,B C xy] 46 (0,0))/\wc.heap[gy]? = some (D #[E rn,A u3 ra.length e3,A u4 xb.length e4,B C yx,B C yy] 46 (0,0))/\gx≠gy/\wr.drew.heap.size<=gx/\wr.drew.heap.size<=gy/\Below wr.drew.heap.size wr.drew wc))
          case first=>
            refine Bm (.s 0 (.s 1 (.s 2 (.s 3 (.s 4 (.s 5 (.s 6 (.s 7 (.b 8 (.h 9 (.h 10 (.h 11 .nil))) 9 (.h 8 (.h 10 (.h 11 .nil)))))))))))) 11 (fun W'=>Below wr.drew.heap.size wr.drew W') (bRf _ _) ?_
            generalize wr.drew=Wd at *
            refine Aw (A (some ⟨b,off,F⟩) l.length c1) ?_
            refine Aw (B C j) ?_
            refine Aw (.pointer (some ⟨b,off+j*5,F⟩)) ?_
            refine Bp (.agg #[E rn,A u1 ra.length e1,A u2 xb.length e2,B C xx,B C xy]) (fun W' hS=>?_) ?_
            · have z0:=(hS.cell (p:=⟨b,off+j*5,F⟩) hbl).trans r0
              have z1:=(hS.cell (p:=⟨b,off+j*5+1,F⟩) hbl).trans r1
              have z2:=(hS.cell (p:=⟨b,off+j*5+2,F⟩) hbl).trans r2
              have z3:=(hS.cell (p:=⟨b,off+j*5+3,F⟩) hbl).trans r3
              have z4:=(hS.cell (p:=⟨b,off+j*5+4,F⟩) hbl).trans r4
              go_simp
            refine Aw (A (some ⟨b',off',F⟩) l.length c2) ?_
            refine Aw (B C j) ?_
            refine Aw (.pointer (some ⟨b',off'+j*5,F⟩)) ?_
            refine Bp (.agg #[E rn,A u3 ra.length e3,A u4 xb.length e4,B C yx,B C yy]) (fun W' hS=>?_) ?_
            · have z0:=(hS.cell (p:=⟨b',off'+j*5,F⟩) hbl').trans t0
              have z1:=(hS.cell (p:=⟨b',off'+j*5+1,F⟩) hbl').trans t1
              have z2:=(hS.cell (p:=⟨b',off'+j*5+2,F⟩) hbl').trans t2
              have z3:=(hS.cell (p:=⟨b',off'+j*5+3,F⟩) hbl').trans t3
              have z4:=(hS.cell (p:=⟨b',off'+j*5+4,F⟩) hbl').trans t4
              go_simp
            obtain⟨n1,n2,n3,n4⟩:=Cl Wd (D #[E ⟨#[]⟩,A F 0 0,A F 0 0,B C 0,B C 0] 46) (D #[E ⟨#[]⟩,A F 0 0,A F 0 0,B C 0,B C 0] 46)
            have B0:=Lq7 (aIn ((bRf Wd.heap.size Wd).alloc (Nat.le_refl _) (D #[E ⟨#[]⟩,A F 0 0,A F 0 0,B C 0,B C 0] 46)) (aIn n3 (aIn n1 n2)))
            refine Dz rfl rfl (fun K10 aJ=>?_) (fun K11 aM=>?_)
            · go_wp2_with fail
              refine aJ _ _ (fun _=>B0.out.1) ?_
              try simp only[gX,aP]
              refine Ae rfl (fun K11 aM=>?_)
              go_wp2_with fail
              refine aM _ _ (fun _=>B0.out.2.1) ?_
              try simp only[gX,aP]
              refine Ae rfl (fun K12 aN=>?_)
              go_wp2_with fail
              refine aN _ _ (fun _=>(Cl Wd (D #[E rn,A u1 ra.length e1,A u2 xb.length e2,B C xx,B C xy] 46) (D #[E ⟨#[]⟩,A F 0 0,A F 0 0,B C 0,B C 0] 46)).2.2.1) ?_
              try simp only[gX,aP]
              refine Ae rfl (fun K13 aQ=>?_)
              go_wp2_with fail
              refine aQ _ _ (fun h=>absurd rfl h) ?_
              refine A2 ?_
              try simp only[gX,aP]
              go_wp2_with fail
              go_meet
              case rel=>exact⟨Wd.heap.size,Wd.heap.size+1,rfl,rfl,Lq7 ⟨(Cl Wd (D #[E rn,A u1 ra.length e1,A u2 xb.length e2,B C xx,B C xy] 46) (D #[E rn,A u3 ra.length e3,A u4 xb.length e4,B C yx,B C yy] 46)).1,(Cl Wd (D #[E rn,A u1 ra.length e1,A u2 xb.length e2,B C xx,B C xy] 46) (D #[E rn,A u3 ra.length e3,A u4 xb.length e4,B C yx,B C yy] 46)).2.1,by omega,by omega,by omega,(Cl Wd (D #[E rn,A u1 ra.length e1,A u2 xb.length e2,B C xx,B C xy] 46) (D #[E rn,A u3 ra.length e3,A u4 xb.length e4,B C yx,B C yy] 46)).2.2.1⟩⟩
            · go_wp2_with fail
              refine aM _ _ (fun _=>B0.out.1) ?_
              try simp only[gX,aP]
              refine Ae rfl (fun K10 aJ=>?_)
              go_wp2_with fail
              refine aJ _ _ (fun _=>B0.out.2.1) ?_
              try simp only[gX,aP]
              refine Ae rfl (fun K12 aN=>?_)
              go_wp2_with fail
              refine aN _ _ (fun _=>(Cl Wd (D #[E ⟨#[]⟩,A F 0 0,A F 0 0,B C 0,B C 0] 46) (D #[E rn,A u1 ra.length e1,A u2 xb.length e2,B C xx,B C xy] 46)).2.2.1) ?_
              try simp only[gX,aP]
              refine Ae rfl (fun K13 aQ=>?_)
              go_wp2_with fail
              refine aQ _ _ (fun h=>absurd rfl h) ?_
              refine A2 ?_
              try simp only[gX,aP]
              go_wp2_with fail
              go_meet
              case rel=>exact⟨Wd.heap.size+1,Wd.heap.size,rfl,rfl,Lq7 ⟨(Cl Wd (D #[E rn,A u3 ra.length e3,A u4 xb.length e4,B C yx,B C yy] 46) (D #[E rn,A u1 ra.length e1,A u2 xb.length e2,B C xx,B C xy] 46)).2.1,(Cl Wd (D #[E rn,A u3 ra.length e3,A u4 xb.length e4,B C yx,B C yy] 46) (D #[E rn,A u1 ra.length e1,A u2 xb.length e2,B C xx,B C xy] 46)).1,by omega,by omega,by omega,(Cl Wd (D #[E rn,A u3 ra.length e3,A u4 xb.length e4,B C yx,B C yy] 46) (D #[E rn,A u1 ra.length e1,A u2 xb.length e2,B C xx,B C xy] 46)).2.2.1⟩⟩
          case rest=>
            obtain⟨gx,gy,rfl,rfl,hcut⟩:=hcut
            have cM:=Lq7 (HS.out _ hcut.out.2.2.2.2.2)
            obtain⟨y0,y1,y2,y3,y4,y5,-⟩:=Aa hcut.out.1
            obtain⟨v0,v1,v2,v3,v4,v5,-⟩:=Aa hcut.out.2.1
            go_wp2_with fail
            refine cM.out.mono ?_
            rintro e w5 ⟨rfl,aC⟩
            have G5:=Lq7 (aIn (stays hcut.out.1 aC) (aIn (stays hcut.out.2.1 aC) (hcut.out.2.2.2.2.2.trans (aC.mono hcut.out.2.2.2.2.2.size))))
            have bM:=Lq7 (aIn hcut.out.2.2.1 (aIn hcut.out.2.2.2.1 hcut.out.2.2.2.2.1))
            clear y0 y1 y2 y3 y4 y5 v0 v1 v2 v3 v4 v5 aC cM HS hcut
            have hgn:=bM.out.1
            obtain⟨y0,y1,y2,y3,y4,y5,y6,y7,y8,y9,y10⟩:=Aa G5.out.1
            obtain⟨v0,v1,v2,v3,v4,v5,v6,v7,v8,v9,v10⟩:=Aa G5.out.2.1
            go_upto_region 20 with fail
            have Hz:=Lq7 (Xz bM.out.1 bM.out.2.1 bM.out.2.2 G5.out.2.2 G5.out.1 G5.out.2.1 (A (some ⟨w5.heap.size,0,F⟩) 0 0) (A (some ⟨w5.heap.size+1,0,F⟩) 0 0) (B C 0) (D #[] 27) rfl)
            clear y0 y1 y2 y3 y4 y5 y6 y7 y8 y9 y10 v0 v1 v2 v3 v4 v5 v6 v7 v8 v9 v10
            generalize World.alloc _ _=W6 at Hz |-
            generalize (some (⟨w5.heap.size,0,F⟩:Addr))=ua at Hz |-
            generalize (some (⟨w5.heap.size+1,0,F⟩:Addr))=uc at Hz |-
            have cN:=Lq7 (HK.out W6 Hz.out.2.2 ua uc 0 0)
            rw[List.length_nil] at cN
            obtain⟨y0,y1,y2,y3,y4,y5,-⟩:=Aa Hz.out.1
            obtain⟨v0,v1,v2,v3,v4,v5,-⟩:=Aa Hz.out.2.1
            go_wp2_with fail
            refine cN.out.mono ?_
            rintro e w6 ⟨rfl,aD⟩
            have bN:=Hz.out.2.2.trans (aD.mono Hz.out.2.2.size)
            have cE:=Lq7 (aIn (H2.out.1.below bN) (aIn (H2.out.2.1.below bN) (H2.out.2.2.trans (bN.mono H2.out.2.2.size))))
            clear bN aD y0 y1 y2 y3 y4 y5 v0 v1 v2 v3 v4 v5
            go_wp2_with fail
            go_roundw
            case rel=>exact⟨j+1,by go_num,by omega,cE⟩
            case measure=>simp only[intOf];omega
        · have aR:=Lq7 (aY.out _ aH.out.2.2)
          have cQ:=Lq7 aH.out.2.2
          go_wp2_with fail
          refine aR.out.mono ?_
          rintro e w6 ⟨rfl,aD⟩
          have Hb7:=Lq7 (cQ.out.trans (aD.mono cQ.out.size))
          go_wp2_with fail
          go_ret
          exact⟨rfl,Hb7.out⟩
end Go.Proofs.YtlbbbapiklendaaGreatDoor